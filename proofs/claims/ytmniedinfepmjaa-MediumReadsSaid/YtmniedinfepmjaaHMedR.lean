/- (*Medium).Read and Spoilt: what they hand back, and what they leave. No conditions. -/
import Derived.Test.YtmniedinfepmjaaHMedP
import Derived.Maps.AppendAt
import Derived.Deep.RegionHeld3
import Derived.StillTailTactics
namespace Go.Proofs.Ytmniedinfepmjaa.P
open Go Go.RowKit Go.Lib Go.Proofs Go.Sort Go.Proofs.YtmniedinfepmjaaW.PrintWords Go.Proofs.YtmniedinfepmjaaW.PrintLast Go.Proofs.YtmniedinfepmjaaW.PrintMore
attribute [local go_sem] max2_int min2_int max_two min_two
set_option linter.unusedVariables false
set_option linter.unusedSimpArgs false

theorem Kd.R_other {α : Type} {kk : Kd α} {e : Nat} {w w2 : World} {base g t : Nat} {ok : Nat → Prop} {v : Value} {xs : List α} {cs : Array Value} (h : Kd.R kk e w base ok v xs) (hk : w.heap[g]? = some (.cells cs t (0, 0))) (ht : ∀ q, q ∈ e :: kk.E → q ≠ t) (hg : w.grownBy w2 (some g)) : Kd.R kk e w2 base ok v xs :=
  Kd.R_over' (v := .slice (some ⟨g, 0, none⟩) 0 0) (e' := t) h (fun k hk2 => by have : g = k := by simpa [Value.ownBlock] using hk2
                                                                                subst this; exact ⟨cs, hk⟩) ht (by simpa [Value.ownBlock] using hg)
theorem Med.blk {w : World} {base g : Nat} {X B S : List Int} {pl nx : Int} (h : Med w base g X B S pl nx) : ∃ cs, w.heap[g]? = some (.cells cs 61 (0, 0)) := by
  obtain ⟨v0, v1, v2, _, _, _, hk, _⟩ := h
  exact ⟨_, hk⟩
/-- How many bytes a piece has, at most. -/
def stepM (S : List Int) (nx : Int) : Int := if S = [] then 512 else mx 1 (mn (rd S nx) 4096)
/-- Up to where a piece goes. -/
def toM (X S : List Int) (pl nx : Int) : Int := mn (pl + stepM S nx) (X.length : Int)
def nextM (S : List Int) (nx : Int) : Int := if S = [] then nx else Int.tmod (nx + 1) (S.length : Int)
theorem stepM_pos (S : List Int) (nx : Int) : 1 ≤ stepM S nx ∧ stepM S nx ≤ 4096 := by
  unfold stepM mx mn
  split
  · omega
  · split <;> split <;> omega
theorem toM_ok (X S : List Int) (pl nx : Int) (h0 : 0 ≤ pl) (h1 : pl < (X.length : Int)) : pl < toM X S pl nx ∧ toM X S pl nx ≤ (X.length : Int) := by
  have := stepM_pos S nx
  unfold toM mn
  split <;> omega
theorem nextM_ok (S : List Int) (nx : Int) (h : S = [] ∨ (0 ≤ nx ∧ nx < (S.length : Int))) : S = [] ∨ (0 ≤ nextM S nx ∧ nextM S nx < (S.length : Int)) := by
  by_cases hS : S = []
  · exact .inl hS
  · rcases h with h | h
    · exact absurd h hS
    · refine .inr ?_
      unfold nextM
      rw [if_neg hS]
      exact ⟨Int.tmod_nonneg _ (by omega), Int.tmod_lt_of_pos _ (by omega)⟩
theorem grown_setCell (w : World) (g i : Nat) (v : Value) : w.grownBy (w.setCell ⟨g, i, none⟩ v) (some g) :=
  ⟨rfl, rfl, rfl, by simp [World.setCell], fun k _ hne => Below.heap_setCell _ _ _ _ (fun e => hne (by rw [e]))⟩

theorem size_set3 (w : World) (a : Addr) (v : Value) : w.heap.size = (w.setCell a v).drew.drew.drew.heap.size := by
  show w.heap.size = (w.setCell a v).heap.size
  simp [World.setCell]
set_option maxHeartbeats 4000000 in
set_option maxRecDepth 100000 in
theorem medium_Read.done (w : World) (base g : Nat) (X B S : List Int) (nx : Int) (h : Med w base g X B S (X.length : Int) nx) :
    Calls Try.prog 18 #[.pointer (some ⟨g, 0, none⟩)] w fun e w' => e = .returned (.tuple #[.slice none 0 0, .bool false]) ∧ Below w.heap.size w w' := by
  obtain ⟨v0, v1, v2, h0, h1, h2, hk, hg⟩ := h
  obtain ⟨A0, k0, rfl⟩ := Kd.R_slice h0
  have hu61 := Try.underlying61
  have hc0 : w.cell? ⟨g, 0, none⟩ = some (.slice A0 X.length k0) := (blk_cell hk 0).trans rfl
  have hc3 : w.cell? ⟨g, 3, none⟩ = some (.int .i64 (X.length : Int)) := (blk_cell hk 3).trans rfl
  have hf0 := blk_frozen hk 0
  have hf3 := blk_frozen hk 3
  have HB := Aside0.mk (Below.refl w.heap.size w)
  clear h0 h1 h2 hk hg
  go_enter Try.func18, Try.ntmps18
  go_wp2
  go_region_held3 (fun w' => w'.cell? ⟨g, 0, none⟩ = some (.slice A0 X.length k0) ∧ w'.cell? ⟨g, 3, none⟩ = some (.int .i64 (X.length : Int))) (go_keep) (fail)
  go_wp2
  go_ret2
  exact ⟨rfl, by repeat (first | (with_reducible first | exact HB.out | apply below_alloc | apply pw_below_drewN | apply below_drew1) | exact HB.out)⟩
set_option maxHeartbeats 4000000 in
set_option maxRecDepth 100000 in
theorem medium_Spoilt.calls (w : World) (base g : Nat) (X B S : List Int) (pl nx : Int) (h : Med w base g X B S pl nx) (hl : B.length ≤ 17592186040000) :
    Calls Try.prog 22 #[.pointer (some ⟨g, 0, none⟩)] w fun e w' => ∃ v, e = .returned v ∧ Kd.R (Kd.int .i64) 3 w' w.heap.size (fun _ => True) v B ∧ Below w.heap.size w w' := by
  obtain ⟨v0, v1, v2, h0, h1, h2, hk, hg⟩ := h
  obtain ⟨A1, k1, rfl⟩ := Kd.R_slice h1
  have hu61 := Try.underlying61
  have hu27 := Try.underlying27
  have hc1 : w.cell? ⟨g, 1, none⟩ = some (.slice A1 B.length k1) := (blk_cell hk 1).trans rfl
  have hf1 := blk_frozen hk 1
  have HB := Aside0.mk (Below.refl w.heap.size w)
  have HR := Aside0.mk h1
  have HF : Aside0 (slices_Clone_int_int.f B = some B) := ⟨by unfold slices_Clone_int_int.f; rw [if_pos hl]⟩
  clear h0 h1 h2 hk hg hl
  go_enter Try.func22, Try.ntmps22
  go_wp2_with (go_at_call 27; refine (slices_Clone_int_int.calls A1 k1 B B _ (Kd.R_reads' HR.out).2.2 (Kd.R_reads' HR.out).2.1 HF.out).mono ?_; rintro e w2 ⟨v2_, rfl, ho2, hb⟩; have HO := Aside0.mk ho2; clear HB; have HB := Aside0.mk hb; clear ho2 hb)
  go_ret
  exact ⟨_, rfl, HO.out, HB.out⟩
set_option maxHeartbeats 4000000 in
set_option maxRecDepth 100000 in
theorem medium_Read.more (w : World) (base g : Nat) (X B S : List Int) (pl nx : Int) (v0 v1 v2 : Value) (h : MedV w base g v0 v1 v2 X B S pl nx) (hX : X.length ≤ 140737488351232) (hSl : S.length ≤ 17592186040000) (hp0 : 0 ≤ pl) (hp1 : pl < (X.length : Int)) (hn : S = [] ∨ (0 ≤ nx ∧ nx < (S.length : Int))) :
    Calls Try.prog 18 #[.pointer (some ⟨g, 0, none⟩)] w fun e w' => ∃ v, e = .returned (.tuple #[v, .bool true]) ∧ Kd.R (Kd.int .u8) 5 w' w.heap.size (fun _ => True) v ((X.take (toM X S pl nx).toNat).drop pl.toNat) ∧ MedV w' base g v0 v1 v2 X B S (toM X S pl nx) (nextM S nx) ∧ w.grownBy w' (some g) := by
  obtain ⟨h0, h1, h2, hk, hg⟩ := h
  obtain ⟨A0, k0, rfl⟩ := Kd.R_slice h0
  obtain ⟨A1, k1, rfl⟩ := Kd.R_slice h1
  obtain ⟨A2, k2, rfl⟩ := Kd.R_slice h2
  have hu61 := Try.underlying61
  have hu27 := Try.underlying27
  have hto := toM_ok X S pl nx hp0 hp1
  have hst := stepM_pos S nx
  obtain ⟨T, hT⟩ : ∃ T, T = toM X S pl nx := ⟨_, rfl⟩
  obtain ⟨M, hM⟩ : ∃ M, M = stepM S nx := ⟨_, rfl⟩
  have hTM : (if (X.length : Int) < pl + M then (X.length : Int) else pl + M) = T := by rw [hT, hM]; rfl
  have hwM : wrap64 (pl + M) = pl + M := wrap64_id _ (by rw [hM]; omega) (by rw [hM]; omega)
  have hwW : IntKind.i64.wrap (pl + M) = pl + M := by rw [← i64_w] at hwM; exact hwM
  rw [← hT] at hto
  rw [← hT]
  have e1 : (pl == (X.length : Int)) = false := beq_eq_false_iff_ne.mpr (by omega)
  have e2 : (pl = (X.length : Int)) = False := eq_false (by omega)
  obtain ⟨i018, hi018, _, hsz18, _⟩ := info_parts info5
  obtain ⟨A18, hcut18, hA18, hC18⟩ := print_mid_of (P := Try.prog) (Value.int .u8) 0 22 5 .i64 .i64 Try.underlying22 hi018 hsz18 A0 k0 X pl T hp0 (by omega) hto.2 (Kd.R_reads' h0).2.1
  obtain ⟨OUT, hOUT⟩ : ∃ OUT, OUT = (X.take T.toNat).drop pl.toNat := ⟨_, rfl⟩
  rw [← hOUT] at hcut18 hA18 hC18
  rw [← hOUT]
  have HF : Aside0 (slices_Clone_byte_byte.f OUT = some OUT) := ⟨by unfold slices_Clone_byte_byte.f; rw [if_pos (by rw [hOUT, List.length_drop, List.length_take]; omega)]⟩
  have HRP : Aside0 (∀ w2, Kd.R (Kd.int .u8) 5 w2 base (fun _ => True) (.slice A0 X.length k0) X → Kd.C (Kd.int .u8) w2 A18 OUT.length OUT) := ⟨fun w2 hr => Kd.C_of_reads (h1 := fun _ => rfl) (hA18 _ (Kd.reads_of_C (Kd.R_reads' hr).2.2))⟩
  have HLC := Aside0.mk hC18
  have hc0 : w.cell? ⟨g, 0, none⟩ = some (.slice A0 X.length k0) := (blk_cell hk 0).trans rfl
  have hc2 : w.cell? ⟨g, 2, none⟩ = some (.slice A2 S.length k2) := (blk_cell hk 2).trans rfl
  have hc3 : w.cell? ⟨g, 3, none⟩ = some (.int .i64 pl) := (blk_cell hk 3).trans rfl
  have hc4 : w.cell? ⟨g, 4, none⟩ = some (.int .i64 nx) := (blk_cell hk 4).trans rfl
  have hf0 := blk_frozen hk 0
  have hf2 := blk_frozen hk 2
  have hf3 := blk_frozen hk 3
  have hf4 := blk_frozen hk 4
  have HTO := Aside0.mk hto
  clear hA18 hC18 hi018 hsz18 hOUT hto
  by_cases hS : S = []
  · subst hS
    have hM2 : M = 512 := by rw [hM]; unfold stepM; rw [if_pos rfl]
    have hnx : nextM [] nx = nx := by unfold nextM; rw [if_pos rfl]
    rw [hnx]
    subst hM2
    have HO0 := Aside0.mk h0
    have HO1 := Aside0.mk h1
    have HO2 := Aside0.mk h2
    have BK := Aside0.mk hk
    have HG := Aside0.mk (World.grownBy.refl w (some g))
    have GE := Aside0.mk hg
    clear hM hst h0 h1 h2 hk hg hn hnx hT hX hSl
    go_enter Try.func18, Try.ntmps18
    go_wp2
    go_region_held3 (fun w' => w'.cell? ⟨g, 0, none⟩ = some (.slice A0 X.length k0) ∧ w'.cell? ⟨g, 3, none⟩ = some (.int .i64 pl)) (go_keep) (fail)
    go_wp2
    go_region_held3 (fun w' => w'.cell? ⟨g, 0, none⟩ = some (.slice A0 X.length k0) ∧ w'.cell? ⟨g, 3, none⟩ = some (.int .i64 pl)) (go_keep) (fail)
    go_wp2
    go_region_held3 (fun w' => w'.cell? ⟨g, 0, none⟩ = some (.slice A0 X.length k0) ∧ w'.cell? ⟨g, 3, none⟩ = some (.int .i64 pl)) (go_keep) (first | (go_at_call 25; refine (slices_Clone_byte_byte.calls A18 (k0 - pl.toNat) OUT OUT _ (HRP.out _ (Kd.R_drew (Kd.R_drew (Kd.R_drew HO0.out)))) HLC.out HF.out).mono ?_; rintro e w2 ⟨v2_, rfl, ho, hb⟩; have hk2 := blk_below (blk_drew (blk_drew (blk_drew BK.out))) hb; have hc0' : w2.cell? ⟨g, 0, none⟩ = some (.slice A0 X.length k0) := (blk_cell hk2 0).trans rfl; have hc3' : w2.cell? ⟨g, 3, none⟩ = some (.int .i64 pl) := (blk_cell hk2 3).trans rfl; have hf3' := blk_frozen hk2 3))
    go_wp2
    go_ret2
    have HB2 := below_step (below_drew1 (below_drew1 (below_drew1 (Below.refl w.heap.size w)))) hb
    have a0 := Kd.R_below (Kd.R_drew (Kd.R_drew (Kd.R_drew HO0.out))) hb
    have a1 := Kd.R_below (Kd.R_drew (Kd.R_drew (Kd.R_drew HO1.out))) hb
    have a2 := Kd.R_below (Kd.R_drew (Kd.R_drew (Kd.R_drew HO2.out))) hb
    exact ⟨_, rfl, Kd.R_set ho hk2 (by decide) 3 (.int .i64 T), ⟨Kd.R_set a0 hk2 (by decide) 3 (.int .i64 T), Kd.R_set a1 hk2 (by decide) 3 (.int .i64 T), Kd.R_set a2 hk2 (by decide) 3 (.int .i64 T), blk_put hk2 3 (.int .i64 T) rfl, GE.out⟩, (grown_of_below HB2 (some g)).trans (grown_setCell w2 g 3 (.int .i64 T))⟩
  · have hn2 := hn.resolve_left hS
    have hlS : 0 < S.length := by omega
    have p1 : (0 ≤ nx) = True := eq_true hn2.1
    have p2 : (nx < (S.length : Int)) = True := eq_true hn2.2
    have p3 : decide ((S.length : Int) > 0) = true := decide_eq_true (by omega)
    have p4 : (0 < S.length) = True := eq_true hlS
    have p5 : ((S.length : Int) = 0) = False := eq_false (by omega)
    have p6 : (S = []) = False := eq_false hS
    have p7 : wrap64 (nx + 1) = nx + 1 := wrap64_id _ (by omega) (by omega)
    have p8 : IntKind.i64.wrap (nx + 1) = nx + 1 := by rw [← i64_w] at p7; exact p7
    have hm0 : 0 ≤ Int.tmod (nx + 1) (S.length : Int) := Int.tmod_nonneg _ (by omega)
    have hm1 : Int.tmod (nx + 1) (S.length : Int) < (S.length : Int) := Int.tmod_lt_of_pos _ (by omega)
    obtain ⟨NX, hNX⟩ : ∃ NX, NX = Int.tmod (nx + 1) (S.length : Int) := ⟨_, rfl⟩
    have hnx : nextM S nx = NX := by unfold nextM; rw [if_neg hS, hNX]
    rw [hnx]
    rw [← hNX] at hm0 hm1
    have p9 : wrap64 NX = NX := wrap64_id _ (by omega) (by omega)
    have pa : IntKind.i64.wrap NX = NX := by rw [← i64_w] at p9; exact p9
    have pb : Int.tmod (nx + 1) (S.length : Int) = NX := hNX.symm
    obtain ⟨Q0, hQ0⟩ : ∃ Q0, Q0 = mn (rd S nx) 4096 := ⟨_, rfl⟩
    have pc : (if 4096 < rd S nx then 4096 else rd S nx) = Q0 := by rw [hQ0]; rfl
    have pd : (if 1 < Q0 then Q0 else 1) = M := by rw [hM, hQ0]; unfold stepM; rw [if_neg hS]; rfl
    obtain ⟨ad, eA2, hx⟩ := Kd.at_int (Kd.R_reads' h2).2.2 nx hn2.1 hn2.2
    cases eA2
    have HO0 := Aside0.mk h0
    have HO1 := Aside0.mk h1
    have HO2 := Aside0.mk h2
    have BK := Aside0.mk hk
    have GE := Aside0.mk hg
    clear hM hst h0 h1 h2 hk hg hn hn2 hnx hT hX hSl hNX hQ0 hlS hS hm0 hm1 p9
    go_enter Try.func18, Try.ntmps18
    go_wp2
    go_region_held3 (fun w' => w'.cell? ⟨g, 0, none⟩ = some (.slice A0 X.length k0) ∧ w'.cell? ⟨g, 3, none⟩ = some (.int .i64 pl)) (go_keep) (fail)
    go_wp2
    go_region_held3 (fun w' => w'.cell? ⟨g, 2, none⟩ = some (.slice (some ad) S.length k2) ∧ w'.cell? ⟨g, 4, none⟩ = some (.int .i64 nx) ∧ w'.cell? (ad.add nx.toNat) = some (.int .i64 (rd S nx))) (go_keep) (fail)
    go_wp2
    refine wp_region_still_tail 14 (by kernel_rfl) (by kernel_rfl) ?_
    simp only [List.take_succ_cons, List.take_zero, List.drop_succ_cons, List.drop_zero]
    change wpStill _ _ w.drew.drew.drew _ _ _
    repeat still_step
    refine wpStill_nil ?_
    change wpList _ _ _ _ _ w.drew.drew.drew
    go_wp2
    have b0 := Kd.R_drew (Kd.R_drew (Kd.R_drew (Kd.R_set HO0.out BK.out (by decide) 4 (.int .i64 NX))))
    have b1 := Kd.R_drew (Kd.R_drew (Kd.R_drew (Kd.R_set HO1.out BK.out (by decide) 4 (.int .i64 NX))))
    have b2 := Kd.R_drew (Kd.R_drew (Kd.R_drew (Kd.R_set HO2.out BK.out (by decide) 4 (.int .i64 NX))))
    have bk := blk_drew (blk_drew (blk_drew (blk_put BK.out 4 (.int .i64 NX) rfl)))
    have bg : w.grownBy (w.setCell ⟨g, 4, none⟩ (.int .i64 NX)).drew.drew.drew (some g) := (grown_setCell w g 4 (.int .i64 NX)).trans (grown_of_below (below_drew1 (below_drew1 (below_drew1 (Below.refl _ _)))) (some g))
    have bs := size_set3 w ⟨g, 4, none⟩ (.int .i64 NX)
    clear hc0 hc2 hc3 hc4 hf0 hf2 hf3 hf4
    generalize (w.setCell ⟨g, 4, none⟩ (.int .i64 NX)).drew.drew.drew = W at b0 b1 b2 bk bg bs ⊢
    have hc0 : W.cell? ⟨g, 0, none⟩ = some (.slice A0 X.length k0) := (blk_cell bk 0).trans rfl
    have hc3 : W.cell? ⟨g, 3, none⟩ = some (.int .i64 pl) := (blk_cell bk 3).trans rfl
    have hf0 := blk_frozen bk 0
    have hf3 := blk_frozen bk 3
    have HO0' := Aside0.mk b0
    have BK' := Aside0.mk bk
    go_region_held3 (fun w' => w'.cell? ⟨g, 0, none⟩ = some (.slice A0 X.length k0) ∧ w'.cell? ⟨g, 3, none⟩ = some (.int .i64 pl)) (go_keep) (fail)
    go_wp2
    go_region_held3 (fun w' => w'.cell? ⟨g, 0, none⟩ = some (.slice A0 X.length k0) ∧ w'.cell? ⟨g, 3, none⟩ = some (.int .i64 pl)) (go_keep) (first | (go_at_call 25; refine (slices_Clone_byte_byte.calls A18 (k0 - pl.toNat) OUT OUT _ (HRP.out _ (Kd.R_drew (Kd.R_drew HO0'.out))) HLC.out HF.out).mono ?_; rintro e w2 ⟨v2_, rfl, ho, hb⟩; have hk2 := blk_below (blk_drew (blk_drew BK'.out)) hb; have hc0' : w2.cell? ⟨g, 0, none⟩ = some (.slice A0 X.length k0) := (blk_cell hk2 0).trans rfl; have hc3' : w2.cell? ⟨g, 3, none⟩ = some (.int .i64 pl) := (blk_cell hk2 3).trans rfl; have hf3' := blk_frozen hk2 3))
    go_wp2
    go_ret2
    have HB2 := below_step (below_drew1 (below_drew1 (Below.refl W.heap.size W))) hb
    have a0 := Kd.R_below (Kd.R_drew (Kd.R_drew b0)) hb
    have a1 := Kd.R_below (Kd.R_drew (Kd.R_drew b1)) hb
    have a2 := Kd.R_below (Kd.R_drew (Kd.R_drew b2)) hb
    refine ⟨_, rfl, ?_, ⟨Kd.R_set a0 hk2 (by decide) 3 (.int .i64 T), Kd.R_set a1 hk2 (by decide) 3 (.int .i64 T), Kd.R_set a2 hk2 (by decide) 3 (.int .i64 T), blk_put hk2 3 (.int .i64 T) rfl, GE.out⟩, bg.trans ((grown_of_below HB2 (some g)).trans (grown_setCell w2 g 3 (.int .i64 T)))⟩
    rw [bs]
    exact Kd.R_set ho hk2 (by decide) 3 (.int .i64 T)
end Go.Proofs.Ytmniedinfepmjaa.P
