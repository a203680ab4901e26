/- MediumRest: the walk of the law: it hands back true. No conditions. -/
import Derived.Test.YtmniedinfepmjaaHMedG
import Derived.Test.YtmniedinfepmjaaHMed
import Derived.Test.YtmniedinfepmjaaHImage
import Derived.Deep.RegionWith
namespace Go.Proofs.Ytmniedinfepmjaa.P
open Go Go.RowKit Go.Lib Go.Proofs Go.Sort Go.Proofs.YtmniedinfepmjaaW.PrintWords Go.Proofs.YtmniedinfepmjaaW.PrintLast Go.Proofs.YtmniedinfepmjaaW.PrintMore
set_option linter.unusedVariables false
set_option linter.unusedSimpArgs false

theorem MedV.over {w w2 : World} {base g b2 : Nat} {ok : Nat → Prop} {v0 v1 v2 v : Value} {X B S xs : List Int} {pl nx : Int} (h : MedV w base g v0 v1 v2 X B S pl nx) (hr : Kd.R (Kd.int .u8) 5 w b2 ok v xs) (hne : ∀ k, v.ownBlock = some k → some k ≠ v0.ownBlock) (hg : w.grownBy w2 v.ownBlock) : MedV w2 base g v0 v1 v2 X B S pl nx := by
  obtain ⟨h0, h1, h2, hk, hb⟩ := h
  have ho : w.ownsRow base 5 1 v0 X.length (X.map (Value.int .u8)) := Kd.own_of_R (enc := Value.int .u8) (h1 := fun _ => rfl) h0
  refine ⟨Kd.R_of_own (enc := Value.int .u8) (h1 := fun _ => rfl) (ho.kept hg ?_) (fun _ _ => trivial), Kd.R_over h1 hr (by decide) hg, Kd.R_over h2 hr (by decide) hg, ?_, hb⟩
  · cases hv : v.ownBlock with
    | none =>
      cases h0 : v0.ownBlock with
      | none => exact .inl rfl
      | some q => exact .inr (by simp)
    | some k => exact .inr (fun e => hne k hv e.symm)
  · rcases (Kd.own_of_R (enc := Value.int .u8) (h1 := fun _ => rfl) hr : w.ownsRow b2 5 1 v xs.length (xs.map (Value.int .u8))).2 with ⟨rfl, _⟩ | ⟨q, cap, cur, rfl, _, hq, _⟩
    · exact blk_grown hk hg (by simp [Value.ownBlock])
    · exact blk_grown hk hg (fun e => by
        have : g = q := by simpa [Value.ownBlock] using e
        subst this
        rw [hk] at hq
        cases hq)
theorem MedV.blk {w : World} {base g : Nat} {v0 v1 v2 : Value} {X B S : List Int} {pl nx : Int} (h : MedV w base g v0 v1 v2 X B S pl nx) : ∃ cs, w.heap[g]? = some (.cells cs 61 (0, 0)) := ⟨_, h.2.2.2.1⟩
theorem cutE_neg (l : List Int) (e : Int) (h : e < 0) : cutE l e = l := by unfold cutE; rw [if_neg (by omega)]
theorem badL_nil0 (n : Nat) : badL n [] = [] := List.eq_nil_of_length_eq_zero (by have := badL_len n []; simpa using this)
theorem take_more (y : List Int) (p t : Nat) (h : p ≤ t) : y.take p ++ (y.take t).drop p = y.take t := by
  rw [show y.take p = (y.take t).take p by rw [List.take_take, Nat.min_eq_left h]]
  exact List.take_append_drop p (y.take t)
set_option maxHeartbeats 8000000 in
set_option maxRecDepth 100000 in
theorem mudlarklaw06_MediumRest.walks (A0 : Option Addr) (c0 : Nat) (l0 : List Int) (a1 : Int) (A2 : Option Addr) (c2 : Nat) (l2 : List Int) (a3 : Int) (w : World) (hr0 : Kd.C (Kd.int .u8) w A0 l0.length l0) (hc0 : l0.length ≤ c0) (hr2 : Kd.C (Kd.int .i64) w A2 l2.length l2) (hc2 : l2.length ≤ c2)
    (hl0 : l0.length ≤ 140737488351232) (hl2 : l2.length * 8 ≤ 140737488351232) (h1 : 0 ≤ a1 ∧ a1 < 65536) (h3 : 0 ≤ a3 ∧ a3 < 256) :
    Calls Try.prog 6 #[.slice A0 l0.length c0, .int .u16 a1, .slice A2 l2.length c2, .int .u8 a3] w fun e w' => e = .returned (.bool true) ∧ Below w.heap.size w w' := by
  have hu27 := Try.underlying27
  have HR0 := Aside0.mk hr0
  have HC0 := Aside0.mk hc0
  have HR2 := Aside0.mk hr2
  have HC2 := Aside0.mk hc2
  have HB := Aside0.mk (Below.refl w.heap.size w)
  have HKN := Aside0.mk (known_eq 5 (by omega))
  clear hr0 hc0 hr2 hc2
  by_cases c20 : (l2.length : Int) > 20
  · have c1 : decide ((l2.length : Int) > 20) = true := decide_eq_true c20
    have c2' : (20 < l2.length) = True := eq_true (by omega)
    clear c20
    go_enter Try.func6, Try.ntmps6
    go_wp2_with (go_at_call 9; refine (mudlarklaw06_known.calls 5 true _ HKN.out).mono ?_; rintro e w1 ⟨rfl, hb⟩; have n0_ := Aside0.mk (below_step HB.out hb); clear HB; have HB := n0_; clear n0_ hb)
    go_ret
    exact ⟨rfl, HB.out⟩
  · have c1 : decide ((l2.length : Int) > 20) = false := decide_eq_false c20
    have c2' : (20 < l2.length) = False := eq_false (by omega)
    obtain ⟨y, hy, hyl⟩ := Bytes_ex l0 hl0 a1 h1.1 h1.2 4000 (by omega)
    have HY := Aside0.mk hy
    have HYL := Aside0.mk hyl
    have HL2 : Aside0 (l2.length ≤ 20) := ⟨by omega⟩
    obtain ⟨K, hK⟩ : ∃ K, K = Int.tmod a3 9 := ⟨_, rfl⟩
    have hK0 : 0 ≤ K := by rw [hK]; exact Int.tmod_nonneg _ h3.1
    have hK1 : K < 9 := by rw [hK]; exact Int.tmod_lt_of_pos _ (by decide)
    have k1 : Int.tmod a3 9 = K := hK.symm
    have k2 : wrap64 K = K := wrap64_id _ (by omega) (by omega)
    have k3 : IntKind.i64.wrap K = K := by rw [← i64_w] at k2; exact k2
    have HK0 := Aside0.mk hK0
    have HK1 := Aside0.mk hK1
    clear hl0 hl2 h1 h3 hy hyl c20 hK hK0 hK1
    go_enter Try.func6, Try.ntmps6
    go_wp2_with (first | (go_at_call 11; refine (mudlarklaw06_Bytes.calls 4000 _ _ l0 a1 y _ (Kd.C_below HR0.out HB.out) HC0.out HY.out).mono ?_; rintro e w1 ⟨vy, rfl, ho, hb⟩; obtain ⟨Ay, ky, rfl⟩ := Kd.R_slice ho; have n0_ := Aside0.mk (Kd.R_lower ho (below_size HB.out)); have n1_ := Aside0.mk (below_step HB.out hb); clear HB; have HO1 := n0_; have HB := n1_; clear n0_ n1_ ho hb) | (go_at_call 17; (have hq_ := medium_New.calls Ay ky y none 0 [] (-1) A2 c2 l2 w1 (Kd.R_reads' HO1.out).2.2 (Kd.R_reads' HO1.out).2.1 (Kd.C_nil _ _) (Nat.le_refl _) (Kd.C_below HR2.out HB.out) HC2.out (by have := HYL.out; omega) (by simp) (by have := HL2.out; omega); rw [cutE_neg y (-1) (by decide), badL_nil0, show makeB y [] = y from rfl] at hq_; refine hq_.mono ?_; clear hq_); rintro e w2 ⟨g, rfl, ⟨v0, v1, v2, hm⟩, hb⟩; have n0_ := Aside0.mk (hm.lower (below_size HB.out)); have n1_ := Aside0.mk (below_step HB.out hb); clear HB; have HM := n0_; have HB := n1_; clear n0_ n1_ hm hb))
    have HLT := Aside0.mk HM.out.lt
    go_loopg [10, 11] 20 (fun kq v10 v11 w' => ∃ (i pl nx : Int), v11 = .int .i64 i ∧ Aside0 (i + (kq : Int) = 20 ∧ 0 ≤ i ∧ i ≤ K) ∧ Aside0 (0 ≤ pl ∧ pl ≤ (y.length : Int) ∧ NxOk l2 nx) ∧ Aside0 (Kd.R (Kd.int .u8) 5 w' w.heap.size (fun k => some k ≠ v0.ownBlock) v10 (y.take pl.toNat)) ∧ Aside0 (MedV w' w.heap.size g v0 v1 v2 y [] l2 pl nx) ∧ Aside0 (Below w.heap.size w w'))
    case atStart => exact ⟨0, 0, 0, rfl, ⟨by have := HK0.out; omega⟩, ⟨by decide, by omega, by unfold NxOk; by_cases h : l2 = []; exact .inl h; exact .inr ⟨by decide, by have := List.length_pos_iff.2 h; omega⟩⟩, ⟨Kd.R_nil _ _ _ _ _⟩, HM, HB⟩
    case round =>
      obtain ⟨i, pl, nx, rfl, HI, HP, HO, HM, HB⟩ := hrel
      cases gk with
      | zero => exact absurd HI.out (by have := HK1.out; have := HI.out; omega)
      | succ k4 =>
        by_cases ci : i < K
        · have ci1 : decide (i < K) = true := decide_eq_true ci
          have HCI := Aside0.mk ci
          clear ci
          by_cases ce : pl = (y.length : Int)
          · subst ce
            go_wp2_with (first | (go_at_call 18; refine (medium_Read.done _ w.heap.size g y [] l2 nx ⟨_, _, _, HM.out⟩).mono ?_; rintro e w5 ⟨rfl, hb⟩; have n0_ := Aside0.mk (Kd.R_below HO.out hb); have n1_ := Aside0.mk (HM.out.below hb); have n2_ := Aside0.mk (below_step HB.out hb); clear HO HM HB; have HO := n0_; have HM := n1_; have HB := n2_; clear n0_ n1_ n2_ hb) | (at_builtin; refine Kd.R_append_row (w0 := w) (Value.int .u8) 0 (h1 := fun _ => rfl) w.heap.size rfl (.tmp 43) (.tmp 44) 22 5 (.int .u8 0) 1 rfl Try.underlying22 info5 rfl (by decide) u10 (y.take (y.length : Int).toNat) ([] : List Int) none 0 0 (fun k => some k ≠ v0.ownBlock) rfl rfl (fun k hk e => by have h1 := HM.out.lt.2.1 k e.symm; omega) HO.out (Kd.C_nil _ _) HB.out (below_size HB.out) (by have h1 := HYL.out; rw [List.length_take]; omega) ?_; intro v6 w6 ho hb hg hv))
            go_roundg k4
            case measure => omega
            case rel =>
              have hI := HI.out; have hCI := HCI.out; have hK1 := HK1.out
              refine ⟨i + 1, (y.length : Int), nx, by rw [wrap64_id (i + 1) (by omega) (by omega)], ⟨by omega⟩, HP, ⟨by rw [List.append_nil] at ho; exact ho⟩, ⟨HM.out.over HO.out (fun k hk => by obtain ⟨hk1, _⟩ := HO.out; exact hk1 k hk) hg⟩, ⟨hb⟩⟩
          · have hp := HP.out
            have hto := toM_ok y l2 pl nx hp.1 (by omega)
            obtain ⟨T, hT⟩ : ∃ T, T = toM y l2 pl nx := ⟨_, rfl⟩
            obtain ⟨NX, hNX⟩ : ∃ NX, NX = nextM l2 nx := ⟨_, rfl⟩
            obtain ⟨OUT, hOUT⟩ : ∃ OUT, OUT = (y.take (toM y l2 pl nx).toNat).drop pl.toNat := ⟨_, rfl⟩
            have hlen : OUT.length = (toM y l2 pl nx).toNat - pl.toNat := by rw [hOUT, List.length_drop, List.length_take]; omega
            have hjoin : y.take pl.toNat ++ OUT = y.take T.toNat := by rw [hOUT, ← hT]; exact take_more y _ _ (by omega)
            have HNX : Aside0 (NxOk l2 NX) := ⟨by rw [hNX]; exact nextM_ok l2 nx hp.2.2⟩
            have HRD : Aside0 (∀ W base, MedV W base g v0 v1 v2 y [] l2 pl nx → Calls Try.prog 18 #[.pointer (some ⟨g, 0, none⟩)] W fun e w' => ∃ v, e = .returned (.tuple #[v, .bool true]) ∧ Kd.R (Kd.int .u8) 5 w' W.heap.size (fun _ => True) v OUT ∧ MedV w' base g v0 v1 v2 y [] l2 T NX ∧ W.grownBy w' (some g)) := ⟨fun W base hm => by
              have h1 := HYL.out; have h2 := HL2.out
              rw [hOUT, hT, hNX]
              exact medium_Read.more W base g y [] l2 pl nx v0 v1 v2 hm (by omega) (by omega) hp.1 (by omega) hp.2.2⟩
            rw [← hT] at hto hlen
            have l1 : decide ((OUT.length : Int) > 0) = true := decide_eq_true (by omega)
            have l2' : (0 < OUT.length) = True := eq_true (by omega)
            have HTO := Aside0.mk hto
            have HJ := Aside0.mk hjoin
            have HLN := Aside0.mk hlen
            have HPL := Aside0.mk hp
            clear hp hto hlen hjoin hOUT hT hNX ce
            go_wp2_with (first | (go_at_call 18; refine (HRD.out _ _ HM.out).mono ?_; rintro e w5 ⟨v9, rfl, ho, hm1, hg1⟩; obtain ⟨A9, k9, rfl⟩ := Kd.R_slice ho; obtain ⟨cs_, hcs_⟩ := HM.out.blk; have n0_ := Aside0.mk (Kd.R_other HO.out hcs_ (by decide) hg1); have n1_ := Aside0.mk hm1; have n2_ := Aside0.mk (HB.out.grown hg1 (below_size HB.out) (fun k e => by cases e; exact HM.out.2.2.2.2)); have n3_ := Aside0.mk (Kd.R_reads' ho).2.2; clear HO HM HB hcs_; have HO := n0_; have HM := n1_; have HB := n2_; have HC9 := n3_; clear n0_ n1_ n2_ n3_ ho hm1 hg1) | (at_builtin; refine Kd.R_append_row (w0 := w) (Value.int .u8) 0 (h1 := fun _ => rfl) w.heap.size rfl (.tmp 43) (.tmp 44) 22 5 (.int .u8 0) 1 rfl Try.underlying22 info5 rfl (by decide) u10 (y.take pl.toNat) OUT A9 OUT.length k9 (fun k => some k ≠ v0.ownBlock) rfl rfl (fun k hk e => by have h1 := HM.out.lt.2.1 k e.symm; omega) HO.out HC9.out HB.out (below_size HB.out) (by have h1 := HYL.out; have h2 := HLN.out; rw [List.length_take]; have h3 := HTO.out; omega) ?_; intro v6 w6 ho hb hg hv))
            go_roundg k4
            case measure => omega
            case rel =>
              have hI := HI.out; have hCI := HCI.out; have hK1 := HK1.out; have hto := HTO.out; have hpl := HPL.out
              refine ⟨i + 1, T, NX, by rw [wrap64_id (i + 1) (by omega) (by omega)], ⟨by omega⟩, ⟨by omega, by omega, HNX.out⟩, ⟨by rw [HJ.out] at ho; exact ho⟩, ⟨HM.out.over HO.out (fun k hk => by obtain ⟨hk1, _⟩ := HO.out; exact hk1 k hk) hg⟩, ⟨hb⟩⟩
        · have ci1 : decide (i < K) = false := decide_eq_false ci
          clear ci
          have HG : Aside0 (∀ W base, MedV W base g v0 v1 v2 y [] l2 pl nx → Calls Try.prog 19 #[.pointer (some ⟨g, 0, none⟩)] W fun e w' => ∃ a b, e = .returned (.agg #[a, b]) ∧ Kd.R (Kd.int .u8) 5 w' W.heap.size (fun _ => True) a (y.drop pl.toNat) ∧ Kd.R (Kd.int .i64) 3 w' W.heap.size (fun _ => True) b [] ∧ (∃ nx, MedV w' base g v0 v1 v2 y [] l2 (y.length : Int) nx ∧ NxOk l2 nx) ∧ W.grownBy w' (some g)) := ⟨fun W base hm => by
            have h1 := HYL.out; have h2 := HL2.out; have hp := HP.out
            have := medium_Gather.calls W base g v0 v1 v2 y [] l2 pl nx hm (by omega) (by simp) (by omega) hp.1 hp.2.1 hp.2.2
            rw [show (if pl = 0 then ([] : List Int) else []) = [] by split <;> rfl] at this
            exact this⟩
          have HLD : Aside0 ((y.drop pl.toNat).length = y.length - pl.toNat) := ⟨List.length_drop ..⟩
          have HTD : Aside0 (y.take pl.toNat ++ y.drop pl.toNat = y) := ⟨List.take_append_drop _ _⟩
          obtain ⟨RST, hRST⟩ : ∃ RST, RST = y.drop pl.toNat := ⟨_, rfl⟩
          rw [← hRST] at HG HLD HTD
          clear hRST
          go_wp2_with (first | (go_at_call 19; refine (HG.out _ _ HM.out).mono ?_; rintro e w5 ⟨va, vb, rfl, ha, hb_, ⟨nx2, hm1, _⟩, hg1⟩; obtain ⟨Aa, ka, rfl⟩ := Kd.R_slice ha; obtain ⟨Ab, kb, rfl⟩ := Kd.R_slice hb_; obtain ⟨cs_, hcs_⟩ := HM.out.blk; have n0_ := Aside0.mk (Kd.R_other HO.out hcs_ (by decide) hg1); have n1_ := Aside0.mk hm1; have n2_ := Aside0.mk (HB.out.grown hg1 (below_size HB.out) (fun k e => by cases e; exact HM.out.2.2.2.2)); have n3_ := Aside0.mk ha; clear HO HM HB hcs_; have HO := n0_; have HM := n1_; have HB := n2_; have HA := n3_; clear n0_ n1_ n2_ n3_ ha hb_ hm1 hg1) | (at_builtin; refine Kd.R_append_row (w0 := w) (Value.int .u8) 0 (h1 := fun _ => rfl) w.heap.size rfl (.tmp 48) (.tmp 50) 22 5 (.int .u8 0) 1 rfl Try.underlying22 info5 rfl (by decide) u10 (y.take pl.toNat) RST Aa RST.length ka (fun k => some k ≠ v0.ownBlock) rfl rfl (fun k hk e => by have h1 := HM.out.lt.2.1 k e.symm; rw [World.size_alloc] at hk; omega) (Kd.R_alloc HO.out _) (Kd.C_alloc (Kd.R_reads' HA.out).2.2 _) (HB.out.alloc (below_size HB.out) _) (by rw [World.size_alloc]; have := below_size HB.out; omega) (by have h1 := HYL.out; have h2 := HLD.out; rw [List.length_take]; omega) ?_; intro v6 w6 ho hb hg hv; rw [HTD.out] at ho; have hm2 := (HM.out.below ((Below.refl _ _).alloc (Nat.le_refl _) _)).over (Kd.R_alloc HO.out _) (fun k hk => by obtain ⟨hk1, _⟩ := HO.out; exact hk1 k hk) hg; clear HO HM HB HA; have HO := Aside0.mk ho; have HM := Aside0.mk hm2; have HB := Aside0.mk hb; clear ho hm2 hb hg hv) | (go_at_call 18; refine (medium_Read.done _ w.heap.size g y [] l2 nx2 ⟨_, _, _, HM.out⟩).mono ?_; rintro e w7 ⟨rfl, hb⟩; have n0_ := Aside0.mk (Kd.R_below HO.out hb); have n2_ := Aside0.mk (below_step HB.out hb); clear HO HM HB; have HO := n0_; have HB := n2_; clear n0_ n2_ hb))
          go_region_with (first | (go_at_call 9; refine (mudlarklaw06_known.calls 5 true _ HKN.out).mono ?_; rintro e w8 ⟨rfl, hb⟩; have n0_ := Aside0.mk (Kd.R_below (Kd.R_drew HO.out) hb); have n2_ := Aside0.mk (below_step (below_drew1 HB.out) hb); clear HO HB; have HO := n0_; have HB := n2_; have hcv6 := own_string (P := Try.prog) Try.underlying22 Try.underlying5 Try.underlying9 (Kd.own_of_R HO.out); clear n0_ n2_ hb) | (go_at_call 11; refine (mudlarklaw06_Bytes.calls 4000 _ _ l0 a1 y _ (Kd.C_below HR0.out HB.out) HC0.out HY.out).mono ?_; rintro e w9 ⟨vz, rfl, ho, hb⟩; have n0_ := Aside0.mk (Kd.R_below HO.out hb); have n2_ := Aside0.mk (below_step HB.out hb); clear HO HB; have HO := n0_; have HB := n2_; have hcv7 := own_string (P := Try.prog) Try.underlying22 Try.underlying5 Try.underlying9 (Kd.own_of_R HO.out); have hcv := own_string (P := Try.prog) Try.underlying22 Try.underlying5 Try.underlying9 (Kd.own_of_R ho); clear n0_ n2_ hb))
          all_goals (simp only [List.getElem_toArray, List.getElem_cons_succ, List.getElem_cons_zero, Act.put, List.setIfInBounds_toArray, List.set_cons_zero, List.set_cons_succ])
          all_goals go_wp2
          all_goals go_ret
          all_goals exact ⟨by simp, HB.out⟩
/-- The walk above is whole: nothing is left to lists and numbers. -/
def mudlarklaw06_MediumRest.Pure : Prop := True
theorem mudlarklaw06_MediumRest.walk (P : mudlarklaw06_MediumRest.Pure) (a0 : Option Addr) (len0 cap0 : Nat) (z0 : List Int) (a1 : Int) (a2 : Option Addr) (len2 cap2 : Nat) (z2 : List Int) (a3 : Int) (w : World) (w0 : IsRowK .u8 w a0 len0 cap0 z0) (y0 : len0 * 1 ≤ 140737488351232) (w1 : (Lit.int .u16 a1).wf = true) (w2 : IsRowK .i64 w a2 len2 cap2 z2) (y2 : len2 * 8 ≤ 140737488351232) (w3 : (Lit.int .u8 a3).wf = true) :
    Calls Try.prog 6 #[.slice a0 len0 cap0, .int .u16 a1, .slice a2 len2 cap2, .int .u8 a3] w fun e w' => e = .returned (.bool true) ∧ Below w.heap.size w w' := by
  obtain ⟨l0, rfl, hr0, hm0, hw0, hc0⟩ := ReadsInt.ofRowC w0
  obtain ⟨l2, rfl, hr2, hm2, hw2, hc2⟩ := ReadsInt.ofRowC w2
  have h1 : 0 ≤ a1 ∧ a1 ≤ 65535 := by simpa [Lit.wf, IntKind.min, IntKind.max, IntKind.signed, IntKind.bits] using w1
  have h3 : 0 ≤ a3 ∧ a3 ≤ 255 := by simpa [Lit.wf, IntKind.min, IntKind.max, IntKind.signed, IntKind.bits] using w3
  exact mudlarklaw06_MediumRest.walks _ _ l0 a1 _ _ l2 a3 w (Kd.C_of_reads (d := (0 : Int)) (h1 := fun _ => rfl) hr0) hc0 (Kd.C_of_reads (d := (0 : Int)) (h1 := fun _ => rfl) hr2) hc2 (by omega) y2 ⟨h1.1, by omega⟩ ⟨h3.1, by omega⟩
end Go.Proofs.Ytmniedinfepmjaa.P
