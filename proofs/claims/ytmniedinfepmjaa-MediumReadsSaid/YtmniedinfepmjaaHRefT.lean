/- The document's medium: New, Read, Gather, as values. No conditions. -/
import Derived.Test.YtmniedinfepmjaaHMedR
import Derived.Test.YtmniedinfepmjaaHMed3
namespace Go.Proofs.Ytmniedinfepmjaa.P
open Go Go.RowKit Go.Lib Go.Proofs Go.Sort Go.Proofs.YtmniedinfepmjaaW.PrintWords Go.Proofs.YtmniedinfepmjaaW.PrintLast Go.Proofs.YtmniedinfepmjaaW.PrintMore
attribute [local go_sem] max2_int min2_int max_two min_two
set_option linter.unusedVariables false
set_option linter.unusedSimpArgs false

set_option maxHeartbeats 8000000 in
set_option maxRecDepth 100000 in
theorem mudlarkref06_Read.done (w : World) (v0 v1 v2 : Value) (A0 : Option Addr) (n0 k0 : Nat) (nx : Int) (h0 : v0 = .slice A0 n0 k0) (h1 : ∃ A n k, v1 = .slice A n k) (h2 : ∃ A n k, v2 = .slice A n k) (hn : (n0 : Int) ≤ 140737488351232) :
    Calls Try.prog 21 #[.agg #[v0, v1, v2, .int .i64 (n0 : Int), .int .i64 nx]] w fun e w' => e = .returned (.tuple #[.agg #[v0, v1, v2, .int .i64 (n0 : Int), .int .i64 nx], .slice none 0 0, .bool false]) ∧ Below w.heap.size w w' := by
  subst h0
  obtain ⟨A1, n1, k1, rfl⟩ := h1
  obtain ⟨A2, n2, k2, rfl⟩ := h2
  have hu44 := Try.underlying44
  have hu27 := Try.underlying27
  have HB := Aside0.mk (Below.refl w.heap.size w)
  have e1 : wrap64 ((n0 : Int) - (n0 : Int)) = 0 := by rw [Int.sub_self]; exact wrap64_id 0 (by omega) (by omega)
  clear hn
  go_enter Try.func21, Try.ntmps21
  go_wp2_with (first | ((with_reducible refine gate_dst (N := 1) rfl ?_); refine box_event ?hg (N := 1) ?hd (cs := #[.slice A0 n0 k0, .slice A1 n1 k1, .slice A2 n2 k2, .int .i64 (n0 : Int), .int .i64 nx]) (t := 44) ?hr ?_; (case hd => rfl); (case hg => rfl); (case hr => first | (go_simp; done) | (go_simp; rfl)); intro gb1 hg w1_ hbox hb; have n0_ := Aside0.mk (below_step HB.out hb); have n1_ := Aside0.mk hbox; have GE1 := Aside0.mk (by rw [hg]; exact below_size HB.out : w.heap.size ≤ gb1); clear HB; have HB := n0_; have BK1 := n1_; clear n0_ n1_ hb hg hbox) | ((with_reducible refine gate_dst (N := 2) rfl ?_); refine box_event ?hg (N := 2) ?hd (cs := #[.slice none 0 0, .slice none 0 0, .slice none 0 0, .int .i64 0, .int .i64 0]) (t := 44) ?hr ?_; (case hd => rfl); (case hg => rfl); (case hr => first | (go_simp; done) | (go_simp; rfl)); intro gb2 hg w2_ hbox hb; have n0_ := Aside0.mk (below_step HB.out hb); have n1_ := Aside0.mk hbox; have n2_ := Aside0.mk (blk_below BK1.out hb); have n3_ := Aside0.mk (by rw [hg]; exact below_size HB.out : w.heap.size ≤ gb2); have hne : (gb1 = gb2) = False := eq_false (by rw [hg]; exact Nat.ne_of_lt (blk_lt BK1.out)); have hne2 : (gb2 = gb1) = False := eq_false (by rw [hg]; exact Nat.ne_of_gt (blk_lt BK1.out)); have NE := Aside0.mk hne; clear HB BK1; have HB := n0_; have BK2 := n1_; have BK1 := n2_; have GE2 := n3_; clear n0_ n1_ n2_ n3_ hb hg hbox; have hc0 : w2_.cell? ⟨gb1, 0, none⟩ = some (.slice A0 n0 k0) := (blk_cell BK1.out 0).trans rfl; have hc1 : w2_.cell? ⟨gb1, 1, none⟩ = some (.slice A1 n1 k1) := (blk_cell BK1.out 1).trans rfl; have hc2 : w2_.cell? ⟨gb1, 2, none⟩ = some (.slice A2 n2 k2) := (blk_cell BK1.out 2).trans rfl; have hc3 : w2_.cell? ⟨gb1, 3, none⟩ = some (.int .i64 (n0 : Int)) := (blk_cell BK1.out 3).trans rfl; have hc4 : w2_.cell? ⟨gb1, 4, none⟩ = some (.int .i64 nx) := (blk_cell BK1.out 4).trans rfl; have hd0 : w2_.cell? ⟨gb2, 0, none⟩ = some (.slice none 0 0) := (blk_cell BK2.out 0).trans rfl; have hd1 : w2_.cell? ⟨gb2, 1, none⟩ = some (.slice none 0 0) := (blk_cell BK2.out 1).trans rfl; have hd2 : w2_.cell? ⟨gb2, 2, none⟩ = some (.slice none 0 0) := (blk_cell BK2.out 2).trans rfl; have hd3 : w2_.cell? ⟨gb2, 3, none⟩ = some (.int .i64 0) := (blk_cell BK2.out 3).trans rfl; have hd4 : w2_.cell? ⟨gb2, 4, none⟩ = some (.int .i64 0) := (blk_cell BK2.out 4).trans rfl; have hf0 := blk_frozen BK2.out 0; have hf1 := blk_frozen BK2.out 1; have hf2 := blk_frozen BK2.out 2; have hf3 := blk_frozen BK2.out 3; have hf4 := blk_frozen BK2.out 4))
  have b1 := blk_put BK2.out 0 (.slice A0 n0 k0) rfl
  have b2 := blk_put b1 1 (.slice A1 n1 k1) rfl
  have b3 := blk_put b2 2 (.slice A2 n2 k2) rfl
  have b4 := blk_put b3 3 (.int .i64 (n0 : Int)) rfl
  have b5 := blk_put b4 4 (.int .i64 nx) rfl
  refine bodyPost_ret (results_ctt rfl _ _ gb2 44 #[.slice A0 n0 k0, .slice A1 n1 k1, .slice A2 n2 k2, .int .i64 (n0 : Int), .int .i64 nx] (0, 0) _ rfl b5 hu44 rfl (by kernel_rfl)) rfl ?_
  exact ⟨rfl, below_set (below_set (below_set (below_set (below_set HB.out GE2.out) GE2.out) GE2.out) GE2.out) GE2.out⟩
set_option maxHeartbeats 8000000 in
set_option maxRecDepth 100000 in
theorem mudlarkref06_Read.more (w : World) (A0 A1 A2 : Option Addr) (k0 n1 k1 k2 : Nat) (X S : List Int) (pl nx : Int) (hrX : Kd.C (Kd.int .u8) w A0 X.length X) (hcX : X.length ≤ k0) (hrS : Kd.C (Kd.int .i64) w A2 S.length S) (hX : X.length ≤ 140737488351232) (hSl : S.length ≤ 17592186040000) (hp0 : 0 ≤ pl) (hp1 : pl < (X.length : Int)) (hn : S = [] ∨ (0 ≤ nx ∧ nx < (S.length : Int))) :
    Calls Try.prog 21 #[.agg #[.slice A0 X.length k0, .slice A1 n1 k1, .slice A2 S.length k2, .int .i64 pl, .int .i64 nx]] w fun e w' => ∃ A' c', e = .returned (.tuple #[.agg #[.slice A0 X.length k0, .slice A1 n1 k1, .slice A2 S.length k2, .int .i64 (toM X S pl nx), .int .i64 (nextM S nx)], .slice A' ((X.take (toM X S pl nx).toNat).drop pl.toNat).length c', .bool true]) ∧ (∀ W : World, Kd.C (Kd.int .u8) W A0 X.length X → Kd.C (Kd.int .u8) W A' ((X.take (toM X S pl nx).toNat).drop pl.toNat).length ((X.take (toM X S pl nx).toNat).drop pl.toNat)) ∧ Below w.heap.size w w' := by
  obtain ⟨n2, hn2⟩ : ∃ n2, n2 = S.length := ⟨_, rfl⟩
  have hu44 := Try.underlying44
  have hu27 := Try.underlying27
  have hto := toM_ok X S pl nx hp0 hp1
  have hst := stepM_pos S nx
  obtain ⟨T, hT⟩ : ∃ T, T = toM X S pl nx := ⟨_, rfl⟩
  obtain ⟨M, hM⟩ : ∃ M, M = stepM S nx := ⟨_, rfl⟩
  have hTM : T = mn (pl + M) (X.length : Int) := by rw [hT, hM]; rfl
  obtain ⟨D, hD⟩ : ∃ D, D = T - pl := ⟨_, rfl⟩
  have hmn : (if (X.length : Int) - pl < M then (X.length : Int) - pl else M) = D := by
    rw [hD, hTM]; unfold mn
    by_cases h : (X.length : Int) < pl + M
    · rw [if_pos h, if_pos (by omega)]
    · rw [if_neg h, if_neg (by omega)]; omega
  rw [← hT] at hto
  rw [← hT]
  have HL1 : Aside0 (wrap64 ((X.length : Int) - pl) = (X.length : Int) - pl) := ⟨wrap64_id _ (by omega) (by omega)⟩
  have HL2 : Aside0 (wrap64 (pl + D) = T) := ⟨by rw [show pl + D = T by omega]; exact wrap64_id _ (by omega) (by omega)⟩
  have hl3 : ((X.length : Int) - pl == 0) = false := beq_eq_false_iff_ne.mpr (by omega)
  have hl4 : ((X.length : Int) - pl = 0) = False := eq_false (by omega)
  obtain ⟨i018, hi018, _, hsz18, _⟩ := info_parts info5
  obtain ⟨A18, hcut18, hA18, hC18⟩ := print_mid_of (P := Try.prog) (Value.int .u8) 0 22 5 .i64 .i64 Try.underlying22 hi018 hsz18 A0 k0 X pl T hp0 (by omega) hto.2 hcX
  obtain ⟨OUT, hOUT⟩ : ∃ OUT, OUT = (X.take T.toNat).drop pl.toNat := ⟨_, rfl⟩
  rw [← hOUT] at hcut18 hA18 hC18
  rw [← hOUT]
  have HRP : Aside0 (∀ W : World, Kd.C (Kd.int .u8) W A0 X.length X → Kd.C (Kd.int .u8) W A18 OUT.length OUT) := ⟨fun W h => Kd.C_of_reads (h1 := fun _ => rfl) (hA18 _ (Kd.reads_of_C h))⟩
  have HS := Aside0.mk hrS
  have HB := Aside0.mk (Below.refl w.heap.size w)
  rw [← hn2]
  clear hA18 hC18 hi018 hsz18 hOUT hrX hcX hrS hT hTM hD hX
  by_cases hS : S = []
  · subst hS
    have hM2 : M = 512 := by rw [hM]; unfold stepM; rw [if_pos rfl]
    have hnx : nextM [] nx = nx := by unfold nextM; rw [if_pos rfl]
    rw [hnx]
    obtain rfl : n2 = 0 := hn2
    subst hM2
    clear hM hst hn hnx hSl hto hp1
    have hl1 := HL1.out
    have hl2 := HL2.out
    go_enter Try.func21, Try.ntmps21
    go_upto_region 11 with (first | ((with_reducible refine gate_dst (N := 1) rfl ?_); refine box_event ?hg (N := 1) ?hd (cs := #[.slice A0 X.length k0, .slice A1 n1 k1, .slice A2 0 k2, .int .i64 pl, .int .i64 nx]) (t := 44) ?hr ?_; (case hd => rfl); (case hg => rfl); (case hr => first | (go_simp; done) | (go_simp; rfl)); intro gb1 hg w1_ hbox hb; have n0_ := Aside0.mk (below_step HB.out hb); have n1_ := Aside0.mk hbox; have GE1 := Aside0.mk (by rw [hg]; exact below_size HB.out : w.heap.size ≤ gb1); clear HB; have HB := n0_; have BK1 := n1_; clear n0_ n1_ hb hg hbox) | ((with_reducible refine gate_dst (N := 2) rfl ?_); refine box_event ?hg (N := 2) ?hd (cs := #[.slice none 0 0, .slice none 0 0, .slice none 0 0, .int .i64 0, .int .i64 0]) (t := 44) ?hr ?_; (case hd => rfl); (case hg => rfl); (case hr => first | (go_simp; done) | (go_simp; rfl)); intro gb2 hg w2_ hbox hb; have n0_ := Aside0.mk (below_step HB.out hb); have n1_ := Aside0.mk hbox; have n2_ := Aside0.mk (blk_below BK1.out hb); have n3_ := Aside0.mk (by rw [hg]; exact below_size HB.out : w.heap.size ≤ gb2); have hne : (gb1 = gb2) = False := eq_false (by rw [hg]; exact Nat.ne_of_lt (blk_lt BK1.out)); have hne2 : (gb2 = gb1) = False := eq_false (by rw [hg]; exact Nat.ne_of_gt (blk_lt BK1.out)); have NE := Aside0.mk hne; clear HB BK1; have HB := n0_; have BK2 := n1_; have BK1 := n2_; have GE2 := n3_; clear n0_ n1_ n2_ n3_ hb hg hbox; have hc0 : w2_.cell? ⟨gb1, 0, none⟩ = some (.slice A0 X.length k0) := (blk_cell BK1.out 0).trans rfl; have hc1 : w2_.cell? ⟨gb1, 1, none⟩ = some (.slice A1 n1 k1) := (blk_cell BK1.out 1).trans rfl; have hc2 : w2_.cell? ⟨gb1, 2, none⟩ = some (.slice A2 0 k2) := (blk_cell BK1.out 2).trans rfl; have hc3 : w2_.cell? ⟨gb1, 3, none⟩ = some (.int .i64 pl) := (blk_cell BK1.out 3).trans rfl; have hc4 : w2_.cell? ⟨gb1, 4, none⟩ = some (.int .i64 nx) := (blk_cell BK1.out 4).trans rfl; have hd0 : w2_.cell? ⟨gb2, 0, none⟩ = some (.slice none 0 0) := (blk_cell BK2.out 0).trans rfl; have hd1 : w2_.cell? ⟨gb2, 1, none⟩ = some (.slice none 0 0) := (blk_cell BK2.out 1).trans rfl; have hd2 : w2_.cell? ⟨gb2, 2, none⟩ = some (.slice none 0 0) := (blk_cell BK2.out 2).trans rfl; have hd3 : w2_.cell? ⟨gb2, 3, none⟩ = some (.int .i64 0) := (blk_cell BK2.out 3).trans rfl; have hd4 : w2_.cell? ⟨gb2, 4, none⟩ = some (.int .i64 0) := (blk_cell BK2.out 4).trans rfl; have hf0 := blk_frozen BK2.out 0; have hf1 := blk_frozen BK2.out 1; have hf2 := blk_frozen BK2.out 2; have hf3 := blk_frozen BK2.out 3; have hf4 := blk_frozen BK2.out 4; have hg3 := blk_frozen BK1.out 3))
    have b0 := blk_put BK1.out 3 (.int .i64 T) rfl
    have c0 := blk_far (p := ⟨gb1, 3, none⟩) BK2.out (fun e => (of_eq_false NE.out) e.symm) (.int .i64 T)
    have HBq := Aside0.mk (below_set (j := 3) (v := .int .i64 T) HB.out GE1.out)
    clear hc0 hc1 hc2 hc3 hc4 hd0 hd1 hd2 hd3 hd4 hf0 hf1 hf2 hf3 hf4 hg3
    generalize w2_.setCell ⟨gb1, 3, none⟩ (.int .i64 T) = W at b0 c0 HBq ⊢
    have hc0 : W.cell? ⟨gb1, 0, none⟩ = some (.slice A0 X.length k0) := (blk_cell b0 0).trans rfl
    have hc1 : W.cell? ⟨gb1, 1, none⟩ = some (.slice A1 n1 k1) := (blk_cell b0 1).trans rfl
    have hc2 : W.cell? ⟨gb1, 2, none⟩ = some (.slice A2 0 k2) := (blk_cell b0 2).trans rfl
    have hc3 : W.cell? ⟨gb1, 3, none⟩ = some (.int .i64 T) := (blk_cell b0 3).trans rfl
    have hc4 : W.cell? ⟨gb1, 4, none⟩ = some (.int .i64 nx) := (blk_cell b0 4).trans rfl
    have hd0 : W.cell? ⟨gb2, 0, none⟩ = some (.slice none 0 0) := (blk_cell c0 0).trans rfl
    have hd1 : W.cell? ⟨gb2, 1, none⟩ = some (.slice none 0 0) := (blk_cell c0 1).trans rfl
    have hd2 : W.cell? ⟨gb2, 2, none⟩ = some (.slice none 0 0) := (blk_cell c0 2).trans rfl
    have hd3 : W.cell? ⟨gb2, 3, none⟩ = some (.int .i64 0) := (blk_cell c0 3).trans rfl
    have hd4 : W.cell? ⟨gb2, 4, none⟩ = some (.int .i64 0) := (blk_cell c0 4).trans rfl
    have hf0 := blk_frozen c0 0
    have hf1 := blk_frozen c0 1
    have hf2 := blk_frozen c0 2
    have hf3 := blk_frozen c0 3
    have hf4 := blk_frozen c0 4
    go_wp2
    have b1 := blk_put c0 0 (.slice A0 X.length k0) rfl
    have b2 := blk_put b1 1 (.slice A1 n1 k1) rfl
    have b3 := blk_put b2 2 (.slice A2 0 k2) rfl
    have b4 := blk_put b3 3 (.int .i64 T) rfl
    have b5 := blk_put b4 4 (.int .i64 nx) rfl
    refine bodyPost_ret (results_ctt rfl _ _ gb2 44 #[.slice A0 X.length k0, .slice A1 n1 k1, .slice A2 0 k2, .int .i64 T, .int .i64 nx] (0, 0) _ rfl b5 hu44 rfl (by kernel_rfl)) ?_ ?_
    · rfl
    refine ⟨A18, k0 - pl.toNat, rfl, HRP.out, ?_⟩; exact below_set (below_set (below_set (below_set (below_set HBq.out GE2.out) GE2.out) GE2.out) GE2.out) GE2.out
  · subst hn2
    have hn2' := hn.resolve_left hS
    have hlS : 0 < S.length := by omega
    have p1 : (0 ≤ nx) = True := eq_true hn2'.1
    have P2 : Aside0 ((nx < (S.length : Int)) = True) := ⟨eq_true hn2'.2⟩
    have p2 : (nx < (S.length : Int)) = True := P2.out
    have p3 : decide ((S.length : Int) > 0) = true := decide_eq_true (by omega)
    have p4 : (0 < S.length) = True := eq_true (by omega)
    have p5 : ((S.length : Int) = 0) = False := eq_false (by omega)
    have p6' : (S = []) = False := eq_false hS
    have p6 : (S.length = 0) = False := eq_false (by omega)
    have hm0 : 0 ≤ Int.tmod (nx + 1) (S.length : Int) := Int.tmod_nonneg _ (by omega)
    have hm1 : Int.tmod (nx + 1) (S.length : Int) < (S.length : Int) := Int.tmod_lt_of_pos _ (by omega)
    obtain ⟨NX, hNX⟩ : ∃ NX, NX = Int.tmod (nx + 1) (S.length : Int) := ⟨_, rfl⟩
    have hnx : nextM S nx = NX := by unfold nextM; rw [if_neg hS, hNX]
    rw [hnx]
    rw [← hNX] at hm0 hm1
    have P7 : Aside0 (wrap64 (nx + 1) = nx + 1) := ⟨wrap64_id _ (by omega) (by omega)⟩
    have P9 : Aside0 (wrap64 NX = NX) := ⟨wrap64_id _ (by omega) (by omega)⟩
    have pb : Int.tmod (nx + 1) (S.length : Int) = NX := hNX.symm
    obtain ⟨Q0, hQ0⟩ : ∃ Q0, Q0 = mn (rd S nx) 4096 := ⟨_, rfl⟩
    have pc : (if 4096 < rd S nx then 4096 else rd S nx) = Q0 := by rw [hQ0]; rfl
    have pd : (if 1 < Q0 then Q0 else 1) = M := by rw [hM, hQ0]; unfold stepM; rw [if_neg hS]; rfl
    clear hM hst hn hn2' hnx hSl hto hp1 hNX hQ0 hlS hS hm0 hm1
    have p7 := P7.out
    have p9 := P9.out
    have hl1 := HL1.out
    have hl2 := HL2.out
    go_enter Try.func21, Try.ntmps21
    go_upto_region 8 with (first | ((with_reducible refine gate_dst (N := 1) rfl ?_); refine box_event ?hg (N := 1) ?hd (cs := #[.slice A0 X.length k0, .slice A1 n1 k1, .slice A2 S.length k2, .int .i64 pl, .int .i64 nx]) (t := 44) ?hr ?_; (case hd => rfl); (case hg => rfl); (case hr => first | (go_simp; done) | (go_simp; rfl)); intro gb1 hg w1_ hbox hb; have n0_ := Aside0.mk (below_step HB.out hb); have n1_ := Aside0.mk hbox; have GE1 := Aside0.mk (by rw [hg]; exact below_size HB.out : w.heap.size ≤ gb1); clear HB; have HB := n0_; have BK1 := n1_; clear n0_ n1_ hb hg hbox) | ((with_reducible refine gate_dst (N := 2) rfl ?_); refine box_event ?hg (N := 2) ?hd (cs := #[.slice none 0 0, .slice none 0 0, .slice none 0 0, .int .i64 0, .int .i64 0]) (t := 44) ?hr ?_; (case hd => rfl); (case hg => rfl); (case hr => first | (go_simp; done) | (go_simp; rfl)); intro gb2 hg w2_ hbox hb; have n0_ := Aside0.mk (below_step HB.out hb); have n1_ := Aside0.mk hbox; have n2_ := Aside0.mk (blk_below BK1.out hb); have n3_ := Aside0.mk (by rw [hg]; exact below_size HB.out : w.heap.size ≤ gb2); have hne : (gb1 = gb2) = False := eq_false (by rw [hg]; exact Nat.ne_of_lt (blk_lt BK1.out)); have hne2 : (gb2 = gb1) = False := eq_false (by rw [hg]; exact Nat.ne_of_gt (blk_lt BK1.out)); have NE := Aside0.mk hne; clear HB BK1; have HB := n0_; have BK2 := n1_; have BK1 := n2_; have GE2 := n3_; clear n0_ n1_ n2_ n3_ hb hg hbox; have hc0 : w2_.cell? ⟨gb1, 0, none⟩ = some (.slice A0 X.length k0) := (blk_cell BK1.out 0).trans rfl; have hc1 : w2_.cell? ⟨gb1, 1, none⟩ = some (.slice A1 n1 k1) := (blk_cell BK1.out 1).trans rfl; have hc2 : w2_.cell? ⟨gb1, 2, none⟩ = some (.slice A2 S.length k2) := (blk_cell BK1.out 2).trans rfl; have hc3 : w2_.cell? ⟨gb1, 3, none⟩ = some (.int .i64 pl) := (blk_cell BK1.out 3).trans rfl; have hc4 : w2_.cell? ⟨gb1, 4, none⟩ = some (.int .i64 nx) := (blk_cell BK1.out 4).trans rfl; have hd0 : w2_.cell? ⟨gb2, 0, none⟩ = some (.slice none 0 0) := (blk_cell BK2.out 0).trans rfl; have hd1 : w2_.cell? ⟨gb2, 1, none⟩ = some (.slice none 0 0) := (blk_cell BK2.out 1).trans rfl; have hd2 : w2_.cell? ⟨gb2, 2, none⟩ = some (.slice none 0 0) := (blk_cell BK2.out 2).trans rfl; have hd3 : w2_.cell? ⟨gb2, 3, none⟩ = some (.int .i64 0) := (blk_cell BK2.out 3).trans rfl; have hd4 : w2_.cell? ⟨gb2, 4, none⟩ = some (.int .i64 0) := (blk_cell BK2.out 4).trans rfl; have hf0 := blk_frozen BK2.out 0; have hf1 := blk_frozen BK2.out 1; have hf2 := blk_frozen BK2.out 2; have hf3 := blk_frozen BK2.out 3; have hf4 := blk_frozen BK2.out 4; have hg4 := blk_frozen BK1.out 4; obtain ⟨ad_, e_, hx⟩ := Kd.at_int (Kd.C_below HS.out HB.out) nx (of_eq_true p1) (of_eq_true P2.out); cases e_))
    have b0 := blk_put BK1.out 4 (.int .i64 NX) rfl
    have c0 := blk_far (p := ⟨gb1, 4, none⟩) BK2.out (fun e => (of_eq_false NE.out) e.symm) (.int .i64 NX)
    have HBq := Aside0.mk (below_set (j := 4) (v := .int .i64 NX) HB.out GE1.out)
    clear hc0 hc1 hc2 hc3 hc4 hd0 hd1 hd2 hd3 hd4 hf0 hf1 hf2 hf3 hf4 hg4 hx
    generalize w2_.setCell ⟨gb1, 4, none⟩ (.int .i64 NX) = W1 at b0 c0 HBq ⊢
    have hc0 : W1.cell? ⟨gb1, 0, none⟩ = some (.slice A0 X.length k0) := (blk_cell b0 0).trans rfl
    have hc1 : W1.cell? ⟨gb1, 1, none⟩ = some (.slice A1 n1 k1) := (blk_cell b0 1).trans rfl
    have hc2 : W1.cell? ⟨gb1, 2, none⟩ = some (.slice (some ad_) S.length k2) := (blk_cell b0 2).trans rfl
    have hc3 : W1.cell? ⟨gb1, 3, none⟩ = some (.int .i64 pl) := (blk_cell b0 3).trans rfl
    have hc4 : W1.cell? ⟨gb1, 4, none⟩ = some (.int .i64 NX) := (blk_cell b0 4).trans rfl
    have hd0 : W1.cell? ⟨gb2, 0, none⟩ = some (.slice none 0 0) := (blk_cell c0 0).trans rfl
    have hd1 : W1.cell? ⟨gb2, 1, none⟩ = some (.slice none 0 0) := (blk_cell c0 1).trans rfl
    have hd2 : W1.cell? ⟨gb2, 2, none⟩ = some (.slice none 0 0) := (blk_cell c0 2).trans rfl
    have hd3 : W1.cell? ⟨gb2, 3, none⟩ = some (.int .i64 0) := (blk_cell c0 3).trans rfl
    have hd4 : W1.cell? ⟨gb2, 4, none⟩ = some (.int .i64 0) := (blk_cell c0 4).trans rfl
    have hf0 := blk_frozen c0 0
    have hf1 := blk_frozen c0 1
    have hf2 := blk_frozen c0 2
    have hf3 := blk_frozen c0 3
    have hf4 := blk_frozen c0 4
    have hg3 := blk_frozen b0 3
    have hg4 := blk_frozen b0 4
    have B0 := Aside0.mk b0
    have C0 := Aside0.mk c0
    clear b0 c0
    go_upto_region 11 with (first | fail)
    have b1 := blk_put B0.out 3 (.int .i64 T) rfl
    have c1 := blk_far (p := ⟨gb1, 3, none⟩) C0.out (fun e => (of_eq_false NE.out) e.symm) (.int .i64 T)
    have HBr := Aside0.mk (below_set (j := 3) (v := .int .i64 T) HBq.out GE1.out)
    clear hc0 hc1 hc2 hc3 hc4 hd0 hd1 hd2 hd3 hd4 hf0 hf1 hf2 hf3 hf4 hg3 hg4
    generalize W1.setCell ⟨gb1, 3, none⟩ (.int .i64 T) = W2 at b1 c1 HBr ⊢
    have hc0 : W2.cell? ⟨gb1, 0, none⟩ = some (.slice A0 X.length k0) := (blk_cell b1 0).trans rfl
    have hc1 : W2.cell? ⟨gb1, 1, none⟩ = some (.slice A1 n1 k1) := (blk_cell b1 1).trans rfl
    have hc2 : W2.cell? ⟨gb1, 2, none⟩ = some (.slice (some ad_) S.length k2) := (blk_cell b1 2).trans rfl
    have hc3 : W2.cell? ⟨gb1, 3, none⟩ = some (.int .i64 T) := (blk_cell b1 3).trans rfl
    have hc4 : W2.cell? ⟨gb1, 4, none⟩ = some (.int .i64 NX) := (blk_cell b1 4).trans rfl
    have hd0 : W2.cell? ⟨gb2, 0, none⟩ = some (.slice none 0 0) := (blk_cell c1 0).trans rfl
    have hd1 : W2.cell? ⟨gb2, 1, none⟩ = some (.slice none 0 0) := (blk_cell c1 1).trans rfl
    have hd2 : W2.cell? ⟨gb2, 2, none⟩ = some (.slice none 0 0) := (blk_cell c1 2).trans rfl
    have hd3 : W2.cell? ⟨gb2, 3, none⟩ = some (.int .i64 0) := (blk_cell c1 3).trans rfl
    have hd4 : W2.cell? ⟨gb2, 4, none⟩ = some (.int .i64 0) := (blk_cell c1 4).trans rfl
    have hf0 := blk_frozen c1 0
    have hf1 := blk_frozen c1 1
    have hf2 := blk_frozen c1 2
    have hf3 := blk_frozen c1 3
    have hf4 := blk_frozen c1 4
    have hg3 := blk_frozen b1 3
    have hg4 := blk_frozen b1 4
    have C1 := Aside0.mk c1
    clear b1 c1
    go_wp2
    have b1 := blk_put C1.out 0 (.slice A0 X.length k0) rfl
    have b2 := blk_put b1 1 (.slice A1 n1 k1) rfl
    have b3 := blk_put b2 2 (.slice (some ad_) S.length k2) rfl
    have b4 := blk_put b3 3 (.int .i64 T) rfl
    have b5 := blk_put b4 4 (.int .i64 NX) rfl
    refine bodyPost_ret (results_ctt rfl _ _ gb2 44 #[.slice A0 X.length k0, .slice A1 n1 k1, .slice (some ad_) S.length k2, .int .i64 T, .int .i64 NX] (0, 0) _ rfl b5 hu44 rfl (by kernel_rfl)) ?_ ?_
    · rfl
    refine ⟨A18, k0 - pl.toNat, rfl, HRP.out, ?_⟩; exact below_set (below_set (below_set (below_set (below_set HBr.out GE2.out) GE2.out) GE2.out) GE2.out) GE2.out
end Go.Proofs.Ytmniedinfepmjaa.P
