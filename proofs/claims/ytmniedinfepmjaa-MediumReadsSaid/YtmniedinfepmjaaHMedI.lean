/- (*Medium).pieces: the iterator that it hands back. No conditions. -/
import Derived.Test.YtmniedinfepmjaaHMedR
import Derived.Test.YtmniedinfepmjaaHRangeM
namespace Go.Proofs.Ytmniedinfepmjaa.P
open Go Go.RowKit Go.Shelf Go.Lib Go.Proofs Go.Sort Go.Proofs.YtmniedinfepmjaaW.PrintWords Go.Proofs.YtmniedinfepmjaaW.PrintLast Go.Proofs.YtmniedinfepmjaaW.PrintMore
set_option linter.unusedVariables false
set_option linter.unusedSimpArgs false
attribute [local go_sem] Oper.semAt_some

theorem R_belowD {k : IntKind} {e D base : Nat} {w w2 : World} {v : Value} {xs : List Int} (h : Kd.R (Kd.int k) e w base (fun _ => True) v xs) (hlt : ∀ g, v.ownBlock = some g → g < D) (hb : Below D w w2) : Kd.R (Kd.int k) e w2 base (fun _ => True) v xs := by
  have ho : w.ownsRow base e 1 v xs.length (xs.map (Value.int k)) := Kd.own_of_R (enc := Value.int k) (h1 := fun _ => rfl) h
  refine Kd.R_of_own (enc := Value.int k) (h1 := fun _ => rfl) ?_ (fun _ _ => trivial)
  refine ⟨ho.1, ?_⟩
  rcases ho.2 with h1 | ⟨g, cap, cur, rfl, h1, hg, h2⟩
  · exact .inl h1
  · exact .inr ⟨g, cap, cur, rfl, h1, (hb.block g (hlt g rfl)).trans hg, h2⟩
theorem R_put {k : IntKind} {e base l : Nat} {w : World} {v : Value} {xs : List Int} {o o' : Obj} (h : Kd.R (Kd.int k) e w base (fun _ => True) v xs) (hl : w.heap[l]? = some o) (hc : o.isCells = false) : Kd.R (Kd.int k) e (w.putObj l o') base (fun _ => True) v xs := by
  have ho : w.ownsRow base e 1 v xs.length (xs.map (Value.int k)) := Kd.own_of_R (enc := Value.int k) (h1 := fun _ => rfl) h
  exact Kd.R_of_own (enc := Value.int k) (h1 := fun _ => rfl) (ownsRow_putObj ho o' hl hc) (fun _ _ => trivial)
theorem MedV.lower {w : World} {base base2 g : Nat} {v0 v1 v2 : Value} {X B S : List Int} {pl nx : Int} (h : MedV w base g v0 v1 v2 X B S pl nx) (hb : base2 ≤ base) : MedV w base2 g v0 v1 v2 X B S pl nx := by
  obtain ⟨h0, h1, h2, hk, hg⟩ := h
  exact ⟨Kd.R_lower h0 hb, Kd.R_lower h1 hb, Kd.R_lower h2 hb, hk, by omega⟩
theorem MedV.below {w w2 : World} {base g : Nat} {v0 v1 v2 : Value} {X B S : List Int} {pl nx : Int} (h : MedV w base g v0 v1 v2 X B S pl nx) (hb : Below w.heap.size w w2) : MedV w2 base g v0 v1 v2 X B S pl nx := by
  obtain ⟨h0, h1, h2, hk, hg⟩ := h
  exact ⟨Kd.R_below h0 hb, Kd.R_below h1 hb, Kd.R_below h2 hb, blk_below hk hb, hg⟩
/-- All of a medium lies below D. -/
def MedLt (D g : Nat) (v0 v1 v2 : Value) : Prop := g < D ∧ (∀ k, v0.ownBlock = some k → k < D) ∧ (∀ k, v1.ownBlock = some k → k < D) ∧ (∀ k, v2.ownBlock = some k → k < D)
theorem MedV.lt {w : World} {base g : Nat} {v0 v1 v2 : Value} {X B S : List Int} {pl nx : Int} (h : MedV w base g v0 v1 v2 X B S pl nx) : MedLt w.heap.size g v0 v1 v2 := by
  obtain ⟨h0, h1, h2, hk, hg⟩ := h
  have own : ∀ {k : IntKind} {e : Nat} {v : Value} {xs : List Int}, Kd.R (Kd.int k) e w base (fun _ => True) v xs → ∀ q, v.ownBlock = some q → q < w.heap.size := fun {k e v xs} h q hq =>
    ((Kd.own_of_R (enc := Value.int k) (h1 := fun _ => rfl) h : w.ownsRow base e 1 v xs.length (xs.map (Value.int k))).lt q hq).2
  exact ⟨blk_lt hk, own h0, own h1, own h2⟩
theorem MedV.keep {w w2 : World} {base g D : Nat} {v0 v1 v2 : Value} {X B S : List Int} {pl nx : Int} (h : MedV w base g v0 v1 v2 X B S pl nx) (hl : MedLt D g v0 v1 v2) (hb : Below D w w2) : MedV w2 base g v0 v1 v2 X B S pl nx := by
  obtain ⟨h0, h1, h2, hk, hg⟩ := h
  exact ⟨R_belowD h0 hl.2.1 hb, R_belowD h1 hl.2.2.1 hb, R_belowD h2 hl.2.2.2 hb, (hb.block g hl.1).trans hk, hg⟩
theorem MedV.put {w : World} {base g l : Nat} {v0 v1 v2 : Value} {X B S : List Int} {pl nx : Int} {o o' : Obj} (h : MedV w base g v0 v1 v2 X B S pl nx) (hl : w.heap[l]? = some o) (hc : o.isCells = false) : MedV (w.putObj l o') base g v0 v1 v2 X B S pl nx := by
  obtain ⟨h0, h1, h2, hk, hg⟩ := h
  exact ⟨R_put h0 hl hc, R_put h1 hl hc, R_put h2 hl hc, (World.putObj_heap_other (fun e => by subst e; rw [hk] at hl; cases hl; cases hc)).trans hk, hg⟩
/-- What pieces hand over, one behind the other. -/
def flat (xs : List (Value × List Int)) : List Int := (xs.map (·.2)).flatten
theorem flat_snoc (xs : List (Value × List Int)) (x : Value × List Int) : flat (xs ++ [x]) = flat xs ++ x.2 := by simp [flat]
/-- How much is left of a medium. -/
def restM (n g : Nat) (W : World) : Nat := match W.heap[g]? with
  | some (.cells #[_, _, _, .int _ p, _] _ _) => ((n : Int) - p).toNat
  | _ => 0
theorem restM_eq {w : World} {base g : Nat} {v0 v1 v2 : Value} {X B S : List Int} {pl nx : Int} (n : Nat) (h : MedV w base g v0 v1 v2 X B S pl nx) : restM n g w = ((n : Int) - pl).toNat := by
  obtain ⟨_, _, _, hk, _⟩ := h
  unfold restM
  rw [hk]
  rfl
def NxOk (S : List Int) (nx : Int) : Prop := S = [] ∨ (0 ≤ nx ∧ nx < (S.length : Int))
set_option maxRecDepth 100000 in
set_option maxHeartbeats 4000000 in
theorem pieces_seq (n b D base g : Nat) (hn : 1 ≤ n) (v0 v1 v2 : Value) (X B S : List Int) (p0 nx0 : Int) (hX : X.length ≤ 140737488351232) (hSl : S.length ≤ 17592186040000) (hp0 : 0 ≤ p0) (hp1 : p0 ≤ (X.length : Int)) (hnx : NxOk S nx0) (hlt : MedLt D g v0 v1 v2) :
    SeqM n Try.prog 40 g b D (fun x : Value × List Int => #[x.1]) (fun W => MedV W base g v0 v1 v2 X B S p0 nx0 ∧ Boxed W b 37 (.pointer (some ⟨g, 0, none⟩)))
      (fun x W => Kd.R (Kd.int .u8) 5 W 0 (fun _ => True) x.1 x.2 ∧ 0 < x.2.length) (fun pre => flat pre <+: X.drop p0.toNat) (fun xs => flat xs = X.drop p0.toNat) (fun W => ∃ nx, MedV W base g v0 v1 v2 X B S (X.length : Int) nx ∧ NxOk S nx) := by
  rintro l J W hgrow hY h0 ⟨hm, hbx⟩
  refine callsIn_of_wp Try.func40 rfl trivial ?_ rfl
  simp only [Try.ntmps40, List.size_toArray, List.length_cons, List.length_nil, Nat.reduceAdd, Nat.reduceSub, Array.replicate_succ, Array.replicate_zero, List.push_toArray, List.append_toArray, List.nil_append, List.cons_append]
  have HLT := Aside0.mk hlt
  have HX := Aside0.mk hX
  have HP := Aside0.mk hp0
  clear hlt hX hp0
  gi_wp2
  gi_loopw [] (fun wr => ∃ (pre : List (Value × List Int)) (pl nx : Int), MedV wr base g v0 v1 v2 X B S pl nx ∧ Boxed wr b 37 (.pointer (some ⟨g, 0, none⟩)) ∧ p0 ≤ pl ∧ pl ≤ (X.length : Int) ∧ NxOk S nx ∧ flat pre = (X.take pl.toNat).drop p0.toNat ∧ J pre wr) (fun wr => restM X.length g wr)
  case atStart => exact ⟨[], p0, nx0, hm, hbx, Int.le_refl _, hp1, hnx, by rw [List.drop_take]; simp [flat], h0⟩
  case round =>
    obtain ⟨pre, pl, nx, hmr, hbr, hq0, hq1, hnxr, hfl, hJ⟩ := hrel
    have hc := hbr.cell
    have hf := hbr.frozen
    have HM := Aside0.mk hmr
    have HBX := Aside0.mk hbr
    have HF := Aside0.mk hfl
    have HJ := Aside0.mk hJ
    have HN := Aside0.mk hnxr
    have HQ0 := Aside0.mk hq0
    have HG := Aside0.mk hgrow
    clear hmr hbr hfl hJ hnxr hm hbx h0 hnx hq0 hp1
    by_cases he : pl = (X.length : Int)
    · subst he
      clear hq1
      gi_wp2_with (refine ⟨trivial, ?_⟩; gi_at_call 18; refine (callsIn_wide.2 (medium_Read.done _ base g X B S nx ⟨_, _, _, HM.out⟩)).mono ?_; rintro e w1 ⟨rfl, hb⟩; have HB1 := Aside0.mk hb; clear hb)
      refine ⟨fun _ h => (by cases h), ?_⟩
      gi_wp2
      refine bodyPost_ret (results_none rfl _ _ _) rfl ?_
      exact ⟨⟨_, rfl⟩, pre, by rw [HF.out, Int.toNat_natCast, List.take_of_length_le (Nat.le_refl _)], HG.out _ _ _ HJ.out (grown_of_below HB1.out _), nx, HM.out.below HB1.out, HN.out⟩
    · have HPL : Aside0 (pl < (X.length : Int)) := ⟨by omega⟩
      have HT := Aside0.mk (toM_ok X S pl nx (by have := HP.out; have := HQ0.out; omega) HPL.out)
      have HLn : Aside0 (((X.take (toM X S pl nx).toNat).drop pl.toNat).length = (toM X S pl nx).toNat - pl.toNat) := ⟨by have := HT.out; rw [List.length_drop, List.length_take]; omega⟩
      have HFL : Aside0 (flat pre ++ (X.take (toM X S pl nx).toNat).drop pl.toNat = (X.take (toM X S pl nx).toNat).drop p0.toNat) := ⟨by
        have h1 := HT.out; have h2 := HP.out; have h3 := HQ0.out
        rw [HF.out, show (X.take (toM X S pl nx).toNat).drop p0.toNat = ((X.take (toM X S pl nx).toNat).drop p0.toNat).take (pl.toNat - p0.toNat) ++ ((X.take (toM X S pl nx).toNat).drop p0.toNat).drop (pl.toNat - p0.toNat) from (List.take_append_drop _ _).symm, List.drop_drop, show p0.toNat + (pl.toNat - p0.toNat) = pl.toNat by omega]
        congr 1
        rw [List.drop_take, List.drop_take, List.take_take]
        congr 1
        omega⟩
      have HNE : Aside0 (some b ≠ some g) := ⟨fun e => by
        cases e
        have h1 := HBX.out
        obtain ⟨_, _, _, hk, _⟩ := HM.out
        unfold Boxed at h1
        rw [h1] at hk
        cases hk⟩
      clear he hq1
      gi_wp2_with (refine ⟨trivial, ?_⟩; gi_at_call 18; refine (callsIn_wide.2 (medium_Read.more _ base g X B S pl nx v0 v1 v2 HM.out HX.out hSl (by have := HP.out; have := HQ0.out; omega) HPL.out HN.out)).mono ?_; rintro e w1 ⟨v9_, rfl, ho, hm1, hg1⟩; have hbr1 := HBX.out.kept hg1 HNE.out; have hc1 := hbr1.cell; have hf1 := hbr1.frozen; obtain ⟨fn_, tmps_, assign_, body_, hy, hR⟩ := hY pre (v9_, (X.take (toM X S pl nx).toNat).drop pl.toNat) _ (HG.out _ _ _ HJ.out hg1) ⟨Kd.R_lower ho (Nat.zero_le _), by rw [HLn.out]; have := HT.out; have := HP.out; have := HQ0.out; omega⟩ (by rw [flat_snoc]; show flat pre ++ (X.take (toM X S pl nx).toNat).drop pl.toNat <+: _; rw [HFL.out, List.drop_take]; exact List.take_prefix _ _))
      refine hR.mono ?_
      rintro e W3 ⟨rfl, hJ3, hkk⟩
      have hm3 := hm1.keep HLT.out hkk.1
      have hb3 : Boxed W3 b 37 (.pointer (some ⟨g, 0, none⟩)) := hkk.2.trans hbr1
      have h1 := HT.out; have h2 := HQ0.out; have h3 := HP.out
      gi_wp2
      go_roundw
      case rel => exact ⟨pre ++ [(v9_, (X.take (toM X S pl nx).toNat).drop pl.toNat)], toM X S pl nx, nextM S nx, hm3, hb3, by omega, by omega, nextM_ok S nx HN.out, by rw [flat_snoc]; exact HFL.out, hJ3⟩
      case measure =>
        rw [restM_eq _ HM.out, restM_eq _ hm3]
        have := HPL.out
        omega
end Go.Proofs.Ytmniedinfepmjaa.P
