/- The document's medium: New and Gather, as values. No conditions. -/
import Derived.Test.YtmniedinfepmjaaHRefT
import Derived.Test.YtmniedinfepmjaaHMedP
import Derived.Deep.RegionHeld3
namespace Go.Proofs.Ytmniedinfepmjaa.P
open Go Go.RowKit Go.Lib Go.Proofs Go.Sort Go.Proofs.YtmniedinfepmjaaW.PrintWords Go.Proofs.YtmniedinfepmjaaW.PrintLast Go.Proofs.YtmniedinfepmjaaW.PrintMore
attribute [local go_sem] max2_int min2_int max_two min_two
set_option linter.unusedVariables false
set_option linter.unusedSimpArgs false

set_option maxHeartbeats 8000000 in
set_option maxRecDepth 100000 in
theorem mudlarkref06_New.calls (A0 : Option Addr) (c0 : Nat) (l0 : List Int) (A1 : Option Addr) (c1 : Nat) (l1 : List Int) (a2 : Int) (A3 : Option Addr) (n3 c3 : Nat) (w : World) (hr0 : Kd.C (Kd.int .u8) w A0 l0.length l0) (hc0 : l0.length ≤ c0) (hr1 : Kd.C (Kd.int .i64) w A1 l1.length l1) (hc1 : l1.length ≤ c1)
    (hl0 : l0.length ≤ 3000) (hl1 : l1.length ≤ 1000) :
    Calls Try.prog 20 #[.slice A0 l0.length c0, .slice A1 l1.length c1, .int .i64 a2, .slice A3 n3 c3] w fun e w' => ∃ v0_ v1_, e = .returned (.agg #[v0_, v1_, .slice A3 n3 c3, .int .i64 0, .int .i64 0]) ∧ Kd.R (Kd.int .u8) 5 w' w.heap.size (fun _ => True) v0_ (makeB (cutE l0 a2) (badL (cutE l0 a2).length l1)) ∧ Kd.R (Kd.int .i64) 3 w' w.heap.size (fun _ => True) v1_ (badL (cutE l0 a2).length l1) ∧ Below w.heap.size w w' := by
  have hu44 := Try.underlying44
  have hL := cutE_len l0 a2
  have HF1 : Aside0 (mudlarkref06_Make.f 8000 (cutE l0 a2) l1 = some (makeB (cutE l0 a2) (badL (cutE l0 a2).length l1), badL (cutE l0 a2).length l1)) := ⟨Pure.rMake_eq _ _ (by omega) hl1 8000 (by omega)⟩
  obtain ⟨XX, hXX⟩ : ∃ XX, XX = makeB (cutE l0 a2) (badL (cutE l0 a2).length l1) := ⟨_, rfl⟩
  obtain ⟨BB, hBB⟩ : ∃ BB, BB = badL (cutE l0 a2).length l1 := ⟨_, rfl⟩
  rw [← hXX, ← hBB] at HF1
  rw [← hXX, ← hBB]
  clear hXX hBB
  have HR1 := Aside0.mk hr1
  have HC1 := Aside0.mk hc1
  clear hr1 hc1 hL hl1
  have HB := Aside0.mk (Below.refl w.heap.size w)
  have HR0 := Aside0.mk hr0
  have HC0 := Aside0.mk hc0
  have HL0 := Aside0.mk hl0
  clear hr0 hc0 hl0
  by_cases h0 : 0 ≤ a2 ∧ a2 < (l0.length : Int)
  · obtain ⟨E, rfl⟩ : ∃ E : Nat, a2 = (E : Int) := ⟨a2.toNat, by omega⟩
    have hcut : cutE l0 (E : Int) = l0.take E := by unfold cutE; rw [if_pos h0, Int.toNat_natCast]
    rw [hcut] at HF1
    have hlen : (l0.take E).length = E := by rw [List.length_take]; omega
    have c1b : decide ((E : Int) ≥ 0) = true := decide_eq_true h0.1
    have c1c : decide (0 ≤ (E : Int)) = true := decide_eq_true h0.1
    have c2b : decide ((E : Int) < (l0.length : Int)) = true := decide_eq_true h0.2
    have c2c : (E < l0.length) = True := eq_true (by have := h0.2; omega)
    have c3b : ((E : Int) ≤ (c0 : Int)) = True := eq_true (by have := HC0.out; omega)
    have c4b : (E ≤ c0) = True := eq_true (by have := HC0.out; omega)
    have HCT : Aside0 (Kd.C (Kd.int .u8) w A0 (l0.take E).length (l0.take E)) := ⟨by
      rw [hlen]
      exact Kd.C_of_reads (h1 := fun _ => rfl) ((Kd.reads_of_C (enc := Value.int .u8) (d := (0 : Int)) (h1 := fun _ => rfl) HR0.out).take_ E (by omega))⟩
    have HCL : Aside0 ((l0.take E).length ≤ c0) := ⟨by rw [hlen]; have := HC0.out; omega⟩
    have HLE := Aside0.mk hlen
    have HM : Aside0 (∀ W, Below w.heap.size w W → Calls Try.prog 13 #[.slice A0 E c0, .slice A1 l1.length c1] W fun e w' => ∃ v0_ v1_ : Value, e = .returned (.agg #[v0_, v1_]) ∧ Kd.R (Kd.int .u8) 5 w' W.heap.size (fun _ => True) v0_ XX ∧ Kd.R (Kd.int .i64) 3 w' W.heap.size (fun _ => True) v1_ BB ∧ Below W.heap.size W w') := ⟨fun W hb => by
      have hq_ := (mudlarkref06_Make.calls 8000 A0 c0 (l0.take E) A1 c1 l1 _ _ W (Kd.C_below HCT.out hb) HCL.out (Kd.C_below HR1.out hb) HC1.out HF1.out)
      rw [HLE.out] at hq_
      exact hq_.mono (fun e w' h => by obtain ⟨v0, v1, rfl, h⟩ := h; obtain ⟨h1, h2, h3⟩ := h; exact ⟨v0, v1, rfl, Kd.R_mono h1 (fun _ _ => trivial), Kd.R_mono h2 (fun _ _ => trivial), h3⟩)⟩
    clear h0 hcut hlen HF1
    go_enter Try.func20, Try.ntmps20
    go_wp2_with (first | ((with_reducible refine gate_dst (N := 8) rfl ?_); refine box_event ?hg (N := 8) ?hd (cs := #[.slice none 0 0, .slice none 0 0, .slice none 0 0, .int .i64 0, .int .i64 0]) (t := 44) ?hr ?_; (case hd => rfl); (case hg => rfl); (case hr => first | (go_simp; done) | (go_simp; rfl)); intro gb2 hg w2_ hbox hb; have n0_ := Aside0.mk (below_step HB.out hb); have n1_ := Aside0.mk hbox; have n3_ := Aside0.mk (by rw [hg]; exact below_size HB.out : w.heap.size ≤ gb2); clear HB; have HB := n0_; have BK2 := n1_; have GE2 := n3_; clear n0_ n1_ n3_ hb hg hbox) | (go_at_call 13; have HBo := Aside0.mk (below_size HB.out); refine (HM.out _ HB.out).mono ?_; rintro e w1 ⟨v0_, v1_, rfl, ho0, ho1, hb⟩; obtain ⟨A4_, k4_, rfl⟩ := Kd.R_slice ho0; obtain ⟨A5_, k5_, rfl⟩ := Kd.R_slice ho1; have n0_ := Aside0.mk (Kd.R_lower ho0 HBo.out); have n1_ := Aside0.mk (Kd.R_lower ho1 HBo.out); have n2_ := Aside0.mk (below_step HB.out hb); have n3_ := Aside0.mk (blk_below BK2.out hb); clear HB BK2 HBo; have HO0 := n0_; have HO1 := n1_; have HB := n2_; have BK2 := n3_; clear n0_ n1_ n2_ n3_ ho0 ho1 hb; have hd0 : w1.cell? ⟨gb2, 0, none⟩ = some (.slice none 0 0) := (blk_cell BK2.out 0).trans rfl; have hd1 : w1.cell? ⟨gb2, 1, none⟩ = some (.slice none 0 0) := (blk_cell BK2.out 1).trans rfl; have hd2 : w1.cell? ⟨gb2, 2, none⟩ = some (.slice none 0 0) := (blk_cell BK2.out 2).trans rfl; have hd3 : w1.cell? ⟨gb2, 3, none⟩ = some (.int .i64 0) := (blk_cell BK2.out 3).trans rfl; have hd4 : w1.cell? ⟨gb2, 4, none⟩ = some (.int .i64 0) := (blk_cell BK2.out 4).trans rfl; have hf0 := blk_frozen BK2.out 0; have hf1 := blk_frozen BK2.out 1; have hf2 := blk_frozen BK2.out 2; have hf3 := blk_frozen BK2.out 3; have hf4 := blk_frozen BK2.out 4))
    have b1 := blk_put BK2.out 0 (.slice A4_ XX.length k4_) rfl
    have b2 := blk_put b1 1 (.slice A5_ BB.length k5_) rfl
    have b3 := blk_put b2 2 (.slice A3 n3 c3) rfl
    have b4 := blk_put b3 3 (.int .i64 0) rfl
    have b5 := blk_put b4 4 (.int .i64 0) rfl
    have q0 := Kd.R_set (Kd.R_set (Kd.R_set (Kd.R_set (Kd.R_set (HO0.out) BK2.out (by decide) 0 (.slice A4_ XX.length k4_)) b1 (by decide) 1 (.slice A5_ BB.length k5_)) b2 (by decide) 2 (.slice A3 n3 c3)) b3 (by decide) 3 (.int .i64 0)) b4 (by decide) 4 (.int .i64 0)
    have q1 := Kd.R_set (Kd.R_set (Kd.R_set (Kd.R_set (Kd.R_set (HO1.out) BK2.out (by decide) 0 (.slice A4_ XX.length k4_)) b1 (by decide) 1 (.slice A5_ BB.length k5_)) b2 (by decide) 2 (.slice A3 n3 c3)) b3 (by decide) 3 (.int .i64 0)) b4 (by decide) 4 (.int .i64 0)
    refine bodyPost_ret (results_cell_row rfl _ _ gb2 44 #[.slice A4_ XX.length k4_, .slice A5_ BB.length k5_, .slice A3 n3 c3, .int .i64 0, .int .i64 0] (0, 0) _ rfl b5 hu44 rfl (by kernel_rfl)) ?_ ?_
    · rfl
    refine ⟨_, _, rfl, q0, q1, ?_⟩
    exact below_set (below_set (below_set (below_set (below_set HB.out GE2.out) GE2.out) GE2.out) GE2.out) GE2.out
  · have hcut : cutE l0 a2 = l0 := by unfold cutE; rw [if_neg h0]
    rw [hcut] at HF1
    have HM : Aside0 (∀ W, Below w.heap.size w W → Calls Try.prog 13 #[.slice A0 l0.length c0, .slice A1 l1.length c1] W fun e w' => ∃ v0_ v1_ : Value, e = .returned (.agg #[v0_, v1_]) ∧ Kd.R (Kd.int .u8) 5 w' W.heap.size (fun _ => True) v0_ XX ∧ Kd.R (Kd.int .i64) 3 w' W.heap.size (fun _ => True) v1_ BB ∧ Below W.heap.size W w') := ⟨fun W hb => by
      refine (mudlarkref06_Make.calls 8000 A0 c0 l0 A1 c1 l1 _ _ W (Kd.C_below HR0.out hb) HC0.out (Kd.C_below HR1.out hb) HC1.out HF1.out).mono ?_
      rintro e w' ⟨v0, v1, rfl, h1, h2, h3⟩
      exact ⟨v0, v1, rfl, Kd.R_mono h1 (fun _ _ => trivial), Kd.R_mono h2 (fun _ _ => trivial), h3⟩⟩
    clear hcut HF1
    by_cases h1 : a2 ≥ 0
    · obtain ⟨E, rfl⟩ : ∃ E : Nat, a2 = (E : Int) := ⟨a2.toNat, by omega⟩
      have c1b : decide ((E : Int) ≥ 0) = true := decide_eq_true h1
      have c2b : decide ((E : Int) < (l0.length : Int)) = false := decide_eq_false (by omega)
      have c2c : (E < l0.length) = False := eq_false (by omega)
      clear h0 h1
      go_enter Try.func20, Try.ntmps20
      go_wp2_with (first | ((with_reducible refine gate_dst (N := 8) rfl ?_); refine box_event ?hg (N := 8) ?hd (cs := #[.slice none 0 0, .slice none 0 0, .slice none 0 0, .int .i64 0, .int .i64 0]) (t := 44) ?hr ?_; (case hd => rfl); (case hg => rfl); (case hr => first | (go_simp; done) | (go_simp; rfl)); intro gb2 hg w2_ hbox hb; have n0_ := Aside0.mk (below_step HB.out hb); have n1_ := Aside0.mk hbox; have n3_ := Aside0.mk (by rw [hg]; exact below_size HB.out : w.heap.size ≤ gb2); clear HB; have HB := n0_; have BK2 := n1_; have GE2 := n3_; clear n0_ n1_ n3_ hb hg hbox) | (go_at_call 13; have HBo := Aside0.mk (below_size HB.out); refine (HM.out _ HB.out).mono ?_; rintro e w1 ⟨v0_, v1_, rfl, ho0, ho1, hb⟩; obtain ⟨A4_, k4_, rfl⟩ := Kd.R_slice ho0; obtain ⟨A5_, k5_, rfl⟩ := Kd.R_slice ho1; have n0_ := Aside0.mk (Kd.R_lower ho0 HBo.out); have n1_ := Aside0.mk (Kd.R_lower ho1 HBo.out); have n2_ := Aside0.mk (below_step HB.out hb); have n3_ := Aside0.mk (blk_below BK2.out hb); clear HB BK2 HBo; have HO0 := n0_; have HO1 := n1_; have HB := n2_; have BK2 := n3_; clear n0_ n1_ n2_ n3_ ho0 ho1 hb; have hd0 : w1.cell? ⟨gb2, 0, none⟩ = some (.slice none 0 0) := (blk_cell BK2.out 0).trans rfl; have hd1 : w1.cell? ⟨gb2, 1, none⟩ = some (.slice none 0 0) := (blk_cell BK2.out 1).trans rfl; have hd2 : w1.cell? ⟨gb2, 2, none⟩ = some (.slice none 0 0) := (blk_cell BK2.out 2).trans rfl; have hd3 : w1.cell? ⟨gb2, 3, none⟩ = some (.int .i64 0) := (blk_cell BK2.out 3).trans rfl; have hd4 : w1.cell? ⟨gb2, 4, none⟩ = some (.int .i64 0) := (blk_cell BK2.out 4).trans rfl; have hf0 := blk_frozen BK2.out 0; have hf1 := blk_frozen BK2.out 1; have hf2 := blk_frozen BK2.out 2; have hf3 := blk_frozen BK2.out 3; have hf4 := blk_frozen BK2.out 4))
      have b1 := blk_put BK2.out 0 (.slice A4_ XX.length k4_) rfl
      have b2 := blk_put b1 1 (.slice A5_ BB.length k5_) rfl
      have b3 := blk_put b2 2 (.slice A3 n3 c3) rfl
      have b4 := blk_put b3 3 (.int .i64 0) rfl
      have b5 := blk_put b4 4 (.int .i64 0) rfl
      have q0 := Kd.R_set (Kd.R_set (Kd.R_set (Kd.R_set (Kd.R_set (HO0.out) BK2.out (by decide) 0 (.slice A4_ XX.length k4_)) b1 (by decide) 1 (.slice A5_ BB.length k5_)) b2 (by decide) 2 (.slice A3 n3 c3)) b3 (by decide) 3 (.int .i64 0)) b4 (by decide) 4 (.int .i64 0)
      have q1 := Kd.R_set (Kd.R_set (Kd.R_set (Kd.R_set (Kd.R_set (HO1.out) BK2.out (by decide) 0 (.slice A4_ XX.length k4_)) b1 (by decide) 1 (.slice A5_ BB.length k5_)) b2 (by decide) 2 (.slice A3 n3 c3)) b3 (by decide) 3 (.int .i64 0)) b4 (by decide) 4 (.int .i64 0)
      refine bodyPost_ret (results_cell_row rfl _ _ gb2 44 #[.slice A4_ XX.length k4_, .slice A5_ BB.length k5_, .slice A3 n3 c3, .int .i64 0, .int .i64 0] (0, 0) _ rfl b5 hu44 rfl (by kernel_rfl)) ?_ ?_
      · rfl
      refine ⟨_, _, rfl, q0, q1, ?_⟩
      exact below_set (below_set (below_set (below_set (below_set HB.out GE2.out) GE2.out) GE2.out) GE2.out) GE2.out
    · have c1b : decide (a2 ≥ 0) = false := decide_eq_false h1
      have c1c : decide (0 ≤ a2) = false := decide_eq_false h1
      clear h0 h1
      go_enter Try.func20, Try.ntmps20
      go_wp2_with (first | ((with_reducible refine gate_dst (N := 8) rfl ?_); refine box_event ?hg (N := 8) ?hd (cs := #[.slice none 0 0, .slice none 0 0, .slice none 0 0, .int .i64 0, .int .i64 0]) (t := 44) ?hr ?_; (case hd => rfl); (case hg => rfl); (case hr => first | (go_simp; done) | (go_simp; rfl)); intro gb2 hg w2_ hbox hb; have n0_ := Aside0.mk (below_step HB.out hb); have n1_ := Aside0.mk hbox; have n3_ := Aside0.mk (by rw [hg]; exact below_size HB.out : w.heap.size ≤ gb2); clear HB; have HB := n0_; have BK2 := n1_; have GE2 := n3_; clear n0_ n1_ n3_ hb hg hbox) | (go_at_call 13; have HBo := Aside0.mk (below_size HB.out); refine (HM.out _ HB.out).mono ?_; rintro e w1 ⟨v0_, v1_, rfl, ho0, ho1, hb⟩; obtain ⟨A4_, k4_, rfl⟩ := Kd.R_slice ho0; obtain ⟨A5_, k5_, rfl⟩ := Kd.R_slice ho1; have n0_ := Aside0.mk (Kd.R_lower ho0 HBo.out); have n1_ := Aside0.mk (Kd.R_lower ho1 HBo.out); have n2_ := Aside0.mk (below_step HB.out hb); have n3_ := Aside0.mk (blk_below BK2.out hb); clear HB BK2 HBo; have HO0 := n0_; have HO1 := n1_; have HB := n2_; have BK2 := n3_; clear n0_ n1_ n2_ n3_ ho0 ho1 hb; have hd0 : w1.cell? ⟨gb2, 0, none⟩ = some (.slice none 0 0) := (blk_cell BK2.out 0).trans rfl; have hd1 : w1.cell? ⟨gb2, 1, none⟩ = some (.slice none 0 0) := (blk_cell BK2.out 1).trans rfl; have hd2 : w1.cell? ⟨gb2, 2, none⟩ = some (.slice none 0 0) := (blk_cell BK2.out 2).trans rfl; have hd3 : w1.cell? ⟨gb2, 3, none⟩ = some (.int .i64 0) := (blk_cell BK2.out 3).trans rfl; have hd4 : w1.cell? ⟨gb2, 4, none⟩ = some (.int .i64 0) := (blk_cell BK2.out 4).trans rfl; have hf0 := blk_frozen BK2.out 0; have hf1 := blk_frozen BK2.out 1; have hf2 := blk_frozen BK2.out 2; have hf3 := blk_frozen BK2.out 3; have hf4 := blk_frozen BK2.out 4))
      have b1 := blk_put BK2.out 0 (.slice A4_ XX.length k4_) rfl
      have b2 := blk_put b1 1 (.slice A5_ BB.length k5_) rfl
      have b3 := blk_put b2 2 (.slice A3 n3 c3) rfl
      have b4 := blk_put b3 3 (.int .i64 0) rfl
      have b5 := blk_put b4 4 (.int .i64 0) rfl
      have q0 := Kd.R_set (Kd.R_set (Kd.R_set (Kd.R_set (Kd.R_set (HO0.out) BK2.out (by decide) 0 (.slice A4_ XX.length k4_)) b1 (by decide) 1 (.slice A5_ BB.length k5_)) b2 (by decide) 2 (.slice A3 n3 c3)) b3 (by decide) 3 (.int .i64 0)) b4 (by decide) 4 (.int .i64 0)
      have q1 := Kd.R_set (Kd.R_set (Kd.R_set (Kd.R_set (Kd.R_set (HO1.out) BK2.out (by decide) 0 (.slice A4_ XX.length k4_)) b1 (by decide) 1 (.slice A5_ BB.length k5_)) b2 (by decide) 2 (.slice A3 n3 c3)) b3 (by decide) 3 (.int .i64 0)) b4 (by decide) 4 (.int .i64 0)
      refine bodyPost_ret (results_cell_row rfl _ _ gb2 44 #[.slice A4_ XX.length k4_, .slice A5_ BB.length k5_, .slice A3 n3 c3, .int .i64 0, .int .i64 0] (0, 0) _ rfl b5 hu44 rfl (by kernel_rfl)) ?_ ?_
      · rfl
      refine ⟨_, _, rfl, q0, q1, ?_⟩
      exact below_set (below_set (below_set (below_set (below_set HB.out GE2.out) GE2.out) GE2.out) GE2.out) GE2.out
set_option maxHeartbeats 8000000 in
set_option maxRecDepth 100000 in
theorem mudlarkref06_Gather.calls (w : World) (A0 A1 A2 : Option Addr) (k0 k1 n2 k2 : Nat) (X B : List Int) (pl nx : Int) (hrX : Kd.C (Kd.int .u8) w A0 X.length X) (hcX : X.length ≤ k0) (hrB : Kd.C (Kd.int .i64) w A1 B.length B) (hcB : B.length ≤ k1) (hp0 : 0 ≤ pl) (hp1 : pl ≤ (X.length : Int)) :
    Calls Try.prog 23 #[.agg #[.slice A0 X.length k0, .slice A1 B.length k1, .slice A2 n2 k2, .int .i64 pl, .int .i64 nx]] w fun e w' => ∃ A' c' Ab cb, e = .returned (.tuple #[.agg #[.slice A0 X.length k0, .slice A1 B.length k1, .slice A2 n2 k2, .int .i64 (X.length : Int), .int .i64 nx], .agg #[.slice A' (X.drop pl.toNat).length c', .slice Ab (if pl = 0 then B else []).length cb]]) ∧ (∀ W : World, Kd.C (Kd.int .u8) W A0 X.length X → Kd.C (Kd.int .u8) W A' (X.drop pl.toNat).length (X.drop pl.toNat)) ∧ (X.drop pl.toNat).length ≤ c' ∧ (∀ W : World, Kd.C (Kd.int .i64) W A1 B.length B → Kd.C (Kd.int .i64) W Ab (if pl = 0 then B else []).length (if pl = 0 then B else [])) ∧ (if pl = 0 then B else []).length ≤ cb ∧ Below w.heap.size w w' := by
  have hu44 := Try.underlying44
  have hu27 := Try.underlying27
  obtain ⟨i018, hi018, _, hsz18, _⟩ := info_parts info5
  obtain ⟨A18, hcut18, hA18, hC18⟩ := print_drop_of (P := Try.prog) (Value.int .u8) 0 22 5 .i64 Try.underlying22 hi018 hsz18 A0 k0 X pl hp0 hp1 hcX
  have HRP : Aside0 (∀ W : World, Kd.C (Kd.int .u8) W A0 X.length X → Kd.C (Kd.int .u8) W A18 (X.drop pl.toNat).length (X.drop pl.toNat)) := ⟨fun W h => Kd.C_of_reads (h1 := fun _ => rfl) (hA18 _ (Kd.reads_of_C h))⟩
  have HLC := Aside0.mk hC18
  obtain ⟨RS, hRS⟩ : ∃ RS, RS = X.drop pl.toNat := ⟨_, rfl⟩
  rw [← hRS] at hcut18 HRP HLC
  rw [← hRS]
  have HRB := Aside0.mk hrB
  have HCB := Aside0.mk hcB
  have HB := Aside0.mk (Below.refl w.heap.size w)
  clear hRS hrX hcX hrB hcB hA18 hC18 hi018 hsz18 hp0 hp1
  by_cases h0 : pl = 0
  · rw [if_pos h0]
    have c0 : (pl == 0) = true := beq_iff_eq.mpr h0
    clear h0
    go_enter Try.func23, Try.ntmps23
    go_upto_region 1 with (first | ((with_reducible refine gate_dst (N := 1) rfl ?_); refine box_event ?hg (N := 1) ?hd (cs := #[.slice A0 X.length k0, .slice A1 B.length k1, .slice A2 n2 k2, .int .i64 pl, .int .i64 nx]) (t := 44) ?hr ?_; (case hd => rfl); (case hg => rfl); (case hr => first | (go_simp; done) | (go_simp; rfl)); intro gb1 hg w1_ hbox hb; have n0_ := Aside0.mk (below_step HB.out hb); have n1_ := Aside0.mk hbox; have GE1 := Aside0.mk (by rw [hg]; exact below_size HB.out : w.heap.size ≤ gb1); clear HB ; have HB := n0_; have BK1 := n1_; clear n0_ n1_  hb hg hbox) | ((with_reducible refine gate_dst (N := 2) rfl ?_); refine box_event ?hg (N := 2) ?hd (cs := #[.slice none 0 0, .slice none 0 0, .slice none 0 0, .int .i64 0, .int .i64 0]) (t := 44) ?hr ?_; (case hd => rfl); (case hg => rfl); (case hr => first | (go_simp; done) | (go_simp; rfl)); intro gb2 hg w2_ hbox hb; have NE12 : Aside0 (gb1 ≠ gb2) := ⟨by rw [hg]; exact Nat.ne_of_lt (blk_lt BK1.out)⟩; have m1_ := Aside0.mk (blk_below BK1.out hb); have n0_ := Aside0.mk (below_step HB.out hb); have n1_ := Aside0.mk hbox; have GE2 := Aside0.mk (by rw [hg]; exact below_size HB.out : w.heap.size ≤ gb2); clear HB BK1; have HB := n0_; have BK2 := n1_; have BK1 := m1_; clear n0_ n1_ m1_ hb hg hbox) | ((with_reducible refine gate_dst (N := 3) rfl ?_); refine box_event ?hg (N := 3) ?hd (cs := #[.slice none 0 0, .slice none 0 0]) (t := 27) ?hr ?_; (case hd => rfl); (case hg => rfl); (case hr => first | (go_simp; done) | (go_simp; rfl)); intro gb3 hg w3_ hbox hb; have NE13 : Aside0 (gb1 ≠ gb3) := ⟨by rw [hg]; exact Nat.ne_of_lt (blk_lt BK1.out)⟩; have NE23 : Aside0 (gb2 ≠ gb3) := ⟨by rw [hg]; exact Nat.ne_of_lt (blk_lt BK2.out)⟩; have m1_ := Aside0.mk (blk_below BK1.out hb); have m2_ := Aside0.mk (blk_below BK2.out hb); have n0_ := Aside0.mk (below_step HB.out hb); have n1_ := Aside0.mk hbox; have GE3 := Aside0.mk (by rw [hg]; exact below_size HB.out : w.heap.size ≤ gb3); clear HB BK1 BK2; have HB := n0_; have BK3 := n1_; have BK1 := m1_; have BK2 := m2_; clear n0_ n1_ m1_ m2_ hb hg hbox))
    have cgb1_0 : w3_.cell? ⟨gb1, 0, none⟩ = some (.slice A0 X.length k0) := (blk_cell BK1.out 0).trans rfl
    have cgb1_1 : w3_.cell? ⟨gb1, 1, none⟩ = some (.slice A1 B.length k1) := (blk_cell BK1.out 1).trans rfl
    have cgb1_2 : w3_.cell? ⟨gb1, 2, none⟩ = some (.slice A2 n2 k2) := (blk_cell BK1.out 2).trans rfl
    have cgb1_3 : w3_.cell? ⟨gb1, 3, none⟩ = some (.int .i64 pl) := (blk_cell BK1.out 3).trans rfl
    have cgb1_4 : w3_.cell? ⟨gb1, 4, none⟩ = some (.int .i64 nx) := (blk_cell BK1.out 4).trans rfl
    go_upto_region 2 with (first | fail)
    have b1 := blk_alloc BK1.out (.cells #[.slice A18 RS.length (k0 - pl.toNat), .slice none 0 0] 27)
    have b2 := blk_alloc BK2.out (.cells #[.slice A18 RS.length (k0 - pl.toNat), .slice none 0 0] 27)
    have b3 := blk_alloc BK3.out (.cells #[.slice A18 RS.length (k0 - pl.toNat), .slice none 0 0] 27)
    have b4 := heap_alloc_new w3_ (.cells #[.slice A18 RS.length (k0 - pl.toNat), .slice none 0 0] 27)
    have n14 := Nat.ne_of_lt (blk_lt BK1.out)
    have n24 := Nat.ne_of_lt (blk_lt BK2.out)
    have n34 := Nat.ne_of_lt (blk_lt BK3.out)
    have g4 := below_size HB.out
    have hb4 := HB.out.alloc (below_size HB.out) (.cells #[.slice A18 RS.length (k0 - pl.toNat), .slice none 0 0] 27)
    clear cgb1_0 cgb1_1 cgb1_2 cgb1_3 cgb1_4
    generalize w3_.heap.size = gb4 at b4 n14 n24 n34 g4 ⊢
    generalize w3_.alloc (.cells #[.slice A18 RS.length (k0 - pl.toNat), .slice none 0 0] 27) = W4 at b1 b2 b3 b4 hb4 ⊢
    have N14 := Aside0.mk n14
    have N24 := Aside0.mk n24
    have N34 := Aside0.mk n34
    have G4 := Aside0.mk g4
    have HB4 := Aside0.mk hb4
    clear n14 n24 n34 g4 hb4 HB
    have cgb1_0 : W4.cell? ⟨gb1, 0, none⟩ = some (.slice A0 X.length k0) := (blk_cell b1 0).trans rfl
    have cgb1_1 : W4.cell? ⟨gb1, 1, none⟩ = some (.slice A1 B.length k1) := (blk_cell b1 1).trans rfl
    have cgb1_2 : W4.cell? ⟨gb1, 2, none⟩ = some (.slice A2 n2 k2) := (blk_cell b1 2).trans rfl
    have cgb1_3 : W4.cell? ⟨gb1, 3, none⟩ = some (.int .i64 pl) := (blk_cell b1 3).trans rfl
    have cgb1_4 : W4.cell? ⟨gb1, 4, none⟩ = some (.int .i64 nx) := (blk_cell b1 4).trans rfl
    have fgb1_3 := blk_frozen b1 3
    have cgb4_0 : W4.cell? ⟨gb4, 0, none⟩ = some (.slice A18 RS.length (k0 - pl.toNat)) := (blk_cell b4 0).trans rfl
    have cgb4_1 : W4.cell? ⟨gb4, 1, none⟩ = some (.slice none 0 0) := (blk_cell b4 1).trans rfl
    have fgb4_1 := blk_frozen b4 1
    have B1 := Aside0.mk b1
    have B2 := Aside0.mk b2
    have B3 := Aside0.mk b3
    have B4 := Aside0.mk b4
    clear b1 b2 b3 b4
    go_upto_region 4 with (first | fail)
    have d1 := blk_far (p := ⟨gb4, 1, none⟩) B1.out N14.out (.slice A1 B.length k1)
    have d2 := blk_far (p := ⟨gb4, 1, none⟩) B2.out N24.out (.slice A1 B.length k1)
    have d3 := blk_far (p := ⟨gb4, 1, none⟩) B3.out N34.out (.slice A1 B.length k1)
    have d4 := blk_put B4.out 1 (.slice A1 B.length k1) rfl
    have HB5 := Aside0.mk (below_set (j := 1) (v := (.slice A1 B.length k1)) HB4.out G4.out)
    clear cgb1_0 cgb1_1 cgb1_2 cgb1_3 cgb1_4 fgb1_3 cgb4_0 cgb4_1 fgb4_1
    generalize W4.setCell ⟨gb4, 1, none⟩ (.slice A1 B.length k1) = W5 at d1 d2 d3 d4 HB5 ⊢
    clear B1 B2 B3 B4
    have B1 := Aside0.mk d1
    have B2 := Aside0.mk d2
    have B3 := Aside0.mk d3
    have B4 := Aside0.mk d4
    clear d1 d2 d3 d4
    have cgb1_0 : W5.cell? ⟨gb1, 0, none⟩ = some (.slice A0 X.length k0) := (blk_cell B1.out 0).trans rfl
    have cgb1_1 : W5.cell? ⟨gb1, 1, none⟩ = some (.slice A1 B.length k1) := (blk_cell B1.out 1).trans rfl
    have cgb1_2 : W5.cell? ⟨gb1, 2, none⟩ = some (.slice A2 n2 k2) := (blk_cell B1.out 2).trans rfl
    have cgb1_3 : W5.cell? ⟨gb1, 3, none⟩ = some (.int .i64 pl) := (blk_cell B1.out 3).trans rfl
    have cgb1_4 : W5.cell? ⟨gb1, 4, none⟩ = some (.int .i64 nx) := (blk_cell B1.out 4).trans rfl
    have fgb1_3 := blk_frozen B1.out 3
    have cgb4_0 : W5.cell? ⟨gb4, 0, none⟩ = some (.slice A18 RS.length (k0 - pl.toNat)) := (blk_cell B4.out 0).trans rfl
    have cgb4_1 : W5.cell? ⟨gb4, 1, none⟩ = some (.slice A1 B.length k1) := (blk_cell B4.out 1).trans rfl
    have fgb4_1 := blk_frozen B4.out 1
    go_upto_region 5 with (first | fail)
    have d1 := blk_put B1.out 3 (.int .i64 (X.length : Int)) rfl
    have d2 := blk_far (p := ⟨gb1, 3, none⟩) B2.out NE12.out.symm (.int .i64 (X.length : Int))
    have d3 := blk_far (p := ⟨gb1, 3, none⟩) B3.out NE13.out.symm (.int .i64 (X.length : Int))
    have d4 := blk_far (p := ⟨gb1, 3, none⟩) B4.out N14.out.symm (.int .i64 (X.length : Int))
    have HB6 := Aside0.mk (below_set (j := 3) (v := (.int .i64 (X.length : Int))) HB5.out GE1.out)
    clear cgb1_0 cgb1_1 cgb1_2 cgb1_3 cgb1_4 fgb1_3 cgb4_0 cgb4_1 fgb4_1
    generalize W5.setCell ⟨gb1, 3, none⟩ (.int .i64 (X.length : Int)) = W6 at d1 d2 d3 d4 HB6 ⊢
    clear B1 B2 B3 B4
    have B2 := Aside0.mk d2
    have B3 := Aside0.mk d3
    have cgb1_0 : W6.cell? ⟨gb1, 0, none⟩ = some (.slice A0 X.length k0) := (blk_cell d1 0).trans rfl
    have cgb1_1 : W6.cell? ⟨gb1, 1, none⟩ = some (.slice A1 B.length k1) := (blk_cell d1 1).trans rfl
    have cgb1_2 : W6.cell? ⟨gb1, 2, none⟩ = some (.slice A2 n2 k2) := (blk_cell d1 2).trans rfl
    have cgb1_3 : W6.cell? ⟨gb1, 3, none⟩ = some (.int .i64 (X.length : Int)) := (blk_cell d1 3).trans rfl
    have cgb1_4 : W6.cell? ⟨gb1, 4, none⟩ = some (.int .i64 nx) := (blk_cell d1 4).trans rfl
    have cgb2_0 : W6.cell? ⟨gb2, 0, none⟩ = some (.slice none 0 0) := (blk_cell d2 0).trans rfl
    have cgb2_1 : W6.cell? ⟨gb2, 1, none⟩ = some (.slice none 0 0) := (blk_cell d2 1).trans rfl
    have cgb2_2 : W6.cell? ⟨gb2, 2, none⟩ = some (.slice none 0 0) := (blk_cell d2 2).trans rfl
    have cgb2_3 : W6.cell? ⟨gb2, 3, none⟩ = some (.int .i64 0) := (blk_cell d2 3).trans rfl
    have cgb2_4 : W6.cell? ⟨gb2, 4, none⟩ = some (.int .i64 0) := (blk_cell d2 4).trans rfl
    have fgb2_0 := blk_frozen d2 0
    have fgb2_1 := blk_frozen d2 1
    have fgb2_2 := blk_frozen d2 2
    have fgb2_3 := blk_frozen d2 3
    have fgb2_4 := blk_frozen d2 4
    have cgb3_0 : W6.cell? ⟨gb3, 0, none⟩ = some (.slice none 0 0) := (blk_cell d3 0).trans rfl
    have cgb3_1 : W6.cell? ⟨gb3, 1, none⟩ = some (.slice none 0 0) := (blk_cell d3 1).trans rfl
    have fgb3_0 := blk_frozen d3 0
    have fgb3_1 := blk_frozen d3 1
    have cgb4_0 : W6.cell? ⟨gb4, 0, none⟩ = some (.slice A18 RS.length (k0 - pl.toNat)) := (blk_cell d4 0).trans rfl
    have cgb4_1 : W6.cell? ⟨gb4, 1, none⟩ = some (.slice A1 B.length k1) := (blk_cell d4 1).trans rfl
    clear d1 d2 d3 d4
    have e21 : (gb2 = gb1) = False := eq_false NE12.out.symm
    have e31 : (gb3 = gb1) = False := eq_false NE13.out.symm
    have e24 : (gb2 = gb4) = False := eq_false N24.out
    have e34 : (gb3 = gb4) = False := eq_false N34.out
    have e12 : (gb1 = gb2) = False := eq_false NE12.out
    have e13 : (gb1 = gb3) = False := eq_false NE13.out
    have e42 : (gb4 = gb2) = False := eq_false N24.out.symm
    have e43 : (gb4 = gb3) = False := eq_false N34.out.symm
    have e23 : (gb2 = gb3) = False := eq_false NE23.out
    have e32 : (gb3 = gb2) = False := eq_false NE23.out.symm
    go_region_held3 (fun w' => w'.cell? ⟨gb1, 0, none⟩ = some (.slice A0 X.length k0) ∧ w'.cell? ⟨gb1, 1, none⟩ = some (.slice A1 B.length k1) ∧ w'.cell? ⟨gb1, 2, none⟩ = some (.slice A2 n2 k2) ∧ w'.cell? ⟨gb1, 3, none⟩ = some (.int .i64 (X.length : Int)) ∧ w'.cell? ⟨gb1, 4, none⟩ = some (.int .i64 nx) ∧ w'.cell? ⟨gb4, 0, none⟩ = some (.slice A18 RS.length (k0 - pl.toNat)) ∧ w'.cell? ⟨gb4, 1, none⟩ = some (.slice A1 B.length k1)) (go_keep) (fail)
    go_wp2
    have u0 := blk_put B2.out 0 (.slice A0 X.length k0) rfl
    have u1 := blk_put u0 1 (.slice A1 B.length k1) rfl
    have u2 := blk_put u1 2 (.slice A2 n2 k2) rfl
    have u3 := blk_put u2 3 (.int .i64 (X.length : Int)) rfl
    have u4 := blk_put u3 4 (.int .i64 nx) rfl
    have u5 := blk_far (p := ⟨gb3, 0, none⟩) u4 NE23.out (.slice A18 RS.length (k0 - pl.toNat))
    have u6 := blk_far (p := ⟨gb3, 1, none⟩) u5 NE23.out (.slice A1 B.length k1)
    have y0 := blk_far (p := ⟨gb2, 0, none⟩) B3.out NE23.out.symm (.slice A0 X.length k0)
    have y1 := blk_far (p := ⟨gb2, 1, none⟩) y0 NE23.out.symm (.slice A1 B.length k1)
    have y2 := blk_far (p := ⟨gb2, 2, none⟩) y1 NE23.out.symm (.slice A2 n2 k2)
    have y3 := blk_far (p := ⟨gb2, 3, none⟩) y2 NE23.out.symm (.int .i64 (X.length : Int))
    have y4 := blk_far (p := ⟨gb2, 4, none⟩) y3 NE23.out.symm (.int .i64 nx)
    have y5 := blk_put y4 0 (.slice A18 RS.length (k0 - pl.toNat)) rfl
    have y6 := blk_put y5 1 (.slice A1 B.length k1) rfl
    refine bodyPost_ret (results_cc rfl _ _ gb2 gb3 44 27 #[.slice A0 X.length k0, .slice A1 B.length k1, .slice A2 n2 k2, .int .i64 (X.length : Int), .int .i64 nx] #[.slice A18 RS.length (k0 - pl.toNat), .slice A1 B.length k1] (0, 0) (0, 0) _ _ rfl (blk_drew u6) hu44 rfl (by kernel_rfl) rfl (blk_drew y6) hu27 rfl (by kernel_rfl)) ?_ ?_
    · rfl
    have HBf := below_drew1 (below_set (j := 1) (v := .slice A1 B.length k1) (below_set (j := 0) (v := .slice A18 RS.length (k0 - pl.toNat)) (below_set (j := 4) (v := .int .i64 nx) (below_set (j := 3) (v := .int .i64 (X.length : Int)) (below_set (j := 2) (v := .slice A2 n2 k2) (below_set (j := 1) (v := .slice A1 B.length k1) (below_set (j := 0) (v := .slice A0 X.length k0) HB6.out GE2.out) GE2.out) GE2.out) GE2.out) GE2.out) GE3.out) GE3.out)
    exact ⟨A18, k0 - pl.toNat, A1, k1, rfl, HRP.out, HLC.out, fun W h => h, HCB.out, HBf⟩
  · rw [if_neg h0]
    have c0 : (pl == 0) = false := beq_eq_false_iff_ne.mpr h0
    clear h0
    go_enter Try.func23, Try.ntmps23
    go_upto_region 1 with (first | ((with_reducible refine gate_dst (N := 1) rfl ?_); refine box_event ?hg (N := 1) ?hd (cs := #[.slice A0 X.length k0, .slice A1 B.length k1, .slice A2 n2 k2, .int .i64 pl, .int .i64 nx]) (t := 44) ?hr ?_; (case hd => rfl); (case hg => rfl); (case hr => first | (go_simp; done) | (go_simp; rfl)); intro gb1 hg w1_ hbox hb; have n0_ := Aside0.mk (below_step HB.out hb); have n1_ := Aside0.mk hbox; have GE1 := Aside0.mk (by rw [hg]; exact below_size HB.out : w.heap.size ≤ gb1); clear HB ; have HB := n0_; have BK1 := n1_; clear n0_ n1_  hb hg hbox) | ((with_reducible refine gate_dst (N := 2) rfl ?_); refine box_event ?hg (N := 2) ?hd (cs := #[.slice none 0 0, .slice none 0 0, .slice none 0 0, .int .i64 0, .int .i64 0]) (t := 44) ?hr ?_; (case hd => rfl); (case hg => rfl); (case hr => first | (go_simp; done) | (go_simp; rfl)); intro gb2 hg w2_ hbox hb; have NE12 : Aside0 (gb1 ≠ gb2) := ⟨by rw [hg]; exact Nat.ne_of_lt (blk_lt BK1.out)⟩; have m1_ := Aside0.mk (blk_below BK1.out hb); have n0_ := Aside0.mk (below_step HB.out hb); have n1_ := Aside0.mk hbox; have GE2 := Aside0.mk (by rw [hg]; exact below_size HB.out : w.heap.size ≤ gb2); clear HB BK1; have HB := n0_; have BK2 := n1_; have BK1 := m1_; clear n0_ n1_ m1_ hb hg hbox) | ((with_reducible refine gate_dst (N := 3) rfl ?_); refine box_event ?hg (N := 3) ?hd (cs := #[.slice none 0 0, .slice none 0 0]) (t := 27) ?hr ?_; (case hd => rfl); (case hg => rfl); (case hr => first | (go_simp; done) | (go_simp; rfl)); intro gb3 hg w3_ hbox hb; have NE13 : Aside0 (gb1 ≠ gb3) := ⟨by rw [hg]; exact Nat.ne_of_lt (blk_lt BK1.out)⟩; have NE23 : Aside0 (gb2 ≠ gb3) := ⟨by rw [hg]; exact Nat.ne_of_lt (blk_lt BK2.out)⟩; have m1_ := Aside0.mk (blk_below BK1.out hb); have m2_ := Aside0.mk (blk_below BK2.out hb); have n0_ := Aside0.mk (below_step HB.out hb); have n1_ := Aside0.mk hbox; have GE3 := Aside0.mk (by rw [hg]; exact below_size HB.out : w.heap.size ≤ gb3); clear HB BK1 BK2; have HB := n0_; have BK3 := n1_; have BK1 := m1_; have BK2 := m2_; clear n0_ n1_ m1_ m2_ hb hg hbox))
    have cgb1_0 : w3_.cell? ⟨gb1, 0, none⟩ = some (.slice A0 X.length k0) := (blk_cell BK1.out 0).trans rfl
    have cgb1_1 : w3_.cell? ⟨gb1, 1, none⟩ = some (.slice A1 B.length k1) := (blk_cell BK1.out 1).trans rfl
    have cgb1_2 : w3_.cell? ⟨gb1, 2, none⟩ = some (.slice A2 n2 k2) := (blk_cell BK1.out 2).trans rfl
    have cgb1_3 : w3_.cell? ⟨gb1, 3, none⟩ = some (.int .i64 pl) := (blk_cell BK1.out 3).trans rfl
    have cgb1_4 : w3_.cell? ⟨gb1, 4, none⟩ = some (.int .i64 nx) := (blk_cell BK1.out 4).trans rfl
    go_upto_region 2 with (first | fail)
    have b1 := blk_alloc BK1.out (.cells #[.slice A18 RS.length (k0 - pl.toNat), .slice none 0 0] 27)
    have b2 := blk_alloc BK2.out (.cells #[.slice A18 RS.length (k0 - pl.toNat), .slice none 0 0] 27)
    have b3 := blk_alloc BK3.out (.cells #[.slice A18 RS.length (k0 - pl.toNat), .slice none 0 0] 27)
    have b4 := heap_alloc_new w3_ (.cells #[.slice A18 RS.length (k0 - pl.toNat), .slice none 0 0] 27)
    have n14 := Nat.ne_of_lt (blk_lt BK1.out)
    have n24 := Nat.ne_of_lt (blk_lt BK2.out)
    have n34 := Nat.ne_of_lt (blk_lt BK3.out)
    have g4 := below_size HB.out
    have hb4 := HB.out.alloc (below_size HB.out) (.cells #[.slice A18 RS.length (k0 - pl.toNat), .slice none 0 0] 27)
    clear cgb1_0 cgb1_1 cgb1_2 cgb1_3 cgb1_4
    generalize w3_.heap.size = gb4 at b4 n14 n24 n34 g4 ⊢
    generalize w3_.alloc (.cells #[.slice A18 RS.length (k0 - pl.toNat), .slice none 0 0] 27) = W4 at b1 b2 b3 b4 hb4 ⊢
    have N14 := Aside0.mk n14
    have N24 := Aside0.mk n24
    have N34 := Aside0.mk n34
    have G4 := Aside0.mk g4
    have HB4 := Aside0.mk hb4
    clear n14 n24 n34 g4 hb4 HB
    have cgb1_0 : W4.cell? ⟨gb1, 0, none⟩ = some (.slice A0 X.length k0) := (blk_cell b1 0).trans rfl
    have cgb1_1 : W4.cell? ⟨gb1, 1, none⟩ = some (.slice A1 B.length k1) := (blk_cell b1 1).trans rfl
    have cgb1_2 : W4.cell? ⟨gb1, 2, none⟩ = some (.slice A2 n2 k2) := (blk_cell b1 2).trans rfl
    have cgb1_3 : W4.cell? ⟨gb1, 3, none⟩ = some (.int .i64 pl) := (blk_cell b1 3).trans rfl
    have cgb1_4 : W4.cell? ⟨gb1, 4, none⟩ = some (.int .i64 nx) := (blk_cell b1 4).trans rfl
    have fgb1_3 := blk_frozen b1 3
    have cgb4_0 : W4.cell? ⟨gb4, 0, none⟩ = some (.slice A18 RS.length (k0 - pl.toNat)) := (blk_cell b4 0).trans rfl
    have cgb4_1 : W4.cell? ⟨gb4, 1, none⟩ = some (.slice none 0 0) := (blk_cell b4 1).trans rfl
    have fgb4_1 := blk_frozen b4 1
    have B1 := Aside0.mk b1
    have B2 := Aside0.mk b2
    have B3 := Aside0.mk b3
    have B4 := Aside0.mk b4
    clear b1 b2 b3 b4
    go_upto_region 5 with (first | fail)
    have d1 := blk_put B1.out 3 (.int .i64 (X.length : Int)) rfl
    have d2 := blk_far (p := ⟨gb1, 3, none⟩) B2.out NE12.out.symm (.int .i64 (X.length : Int))
    have d3 := blk_far (p := ⟨gb1, 3, none⟩) B3.out NE13.out.symm (.int .i64 (X.length : Int))
    have d4 := blk_far (p := ⟨gb1, 3, none⟩) B4.out N14.out.symm (.int .i64 (X.length : Int))
    have HB6 := Aside0.mk (below_set (j := 3) (v := (.int .i64 (X.length : Int))) HB4.out GE1.out)
    clear cgb1_0 cgb1_1 cgb1_2 cgb1_3 cgb1_4 fgb1_3 cgb4_0 cgb4_1 fgb4_1
    generalize W4.setCell ⟨gb1, 3, none⟩ (.int .i64 (X.length : Int)) = W6 at d1 d2 d3 d4 HB6 ⊢
    clear B1 B2 B3 B4
    have B2 := Aside0.mk d2
    have B3 := Aside0.mk d3
    have cgb1_0 : W6.cell? ⟨gb1, 0, none⟩ = some (.slice A0 X.length k0) := (blk_cell d1 0).trans rfl
    have cgb1_1 : W6.cell? ⟨gb1, 1, none⟩ = some (.slice A1 B.length k1) := (blk_cell d1 1).trans rfl
    have cgb1_2 : W6.cell? ⟨gb1, 2, none⟩ = some (.slice A2 n2 k2) := (blk_cell d1 2).trans rfl
    have cgb1_3 : W6.cell? ⟨gb1, 3, none⟩ = some (.int .i64 (X.length : Int)) := (blk_cell d1 3).trans rfl
    have cgb1_4 : W6.cell? ⟨gb1, 4, none⟩ = some (.int .i64 nx) := (blk_cell d1 4).trans rfl
    have cgb2_0 : W6.cell? ⟨gb2, 0, none⟩ = some (.slice none 0 0) := (blk_cell d2 0).trans rfl
    have cgb2_1 : W6.cell? ⟨gb2, 1, none⟩ = some (.slice none 0 0) := (blk_cell d2 1).trans rfl
    have cgb2_2 : W6.cell? ⟨gb2, 2, none⟩ = some (.slice none 0 0) := (blk_cell d2 2).trans rfl
    have cgb2_3 : W6.cell? ⟨gb2, 3, none⟩ = some (.int .i64 0) := (blk_cell d2 3).trans rfl
    have cgb2_4 : W6.cell? ⟨gb2, 4, none⟩ = some (.int .i64 0) := (blk_cell d2 4).trans rfl
    have fgb2_0 := blk_frozen d2 0
    have fgb2_1 := blk_frozen d2 1
    have fgb2_2 := blk_frozen d2 2
    have fgb2_3 := blk_frozen d2 3
    have fgb2_4 := blk_frozen d2 4
    have cgb3_0 : W6.cell? ⟨gb3, 0, none⟩ = some (.slice none 0 0) := (blk_cell d3 0).trans rfl
    have cgb3_1 : W6.cell? ⟨gb3, 1, none⟩ = some (.slice none 0 0) := (blk_cell d3 1).trans rfl
    have fgb3_0 := blk_frozen d3 0
    have fgb3_1 := blk_frozen d3 1
    have cgb4_0 : W6.cell? ⟨gb4, 0, none⟩ = some (.slice A18 RS.length (k0 - pl.toNat)) := (blk_cell d4 0).trans rfl
    have cgb4_1 : W6.cell? ⟨gb4, 1, none⟩ = some (.slice none 0 0) := (blk_cell d4 1).trans rfl
    clear d1 d2 d3 d4
    have e21 : (gb2 = gb1) = False := eq_false NE12.out.symm
    have e31 : (gb3 = gb1) = False := eq_false NE13.out.symm
    have e24 : (gb2 = gb4) = False := eq_false N24.out
    have e34 : (gb3 = gb4) = False := eq_false N34.out
    have e12 : (gb1 = gb2) = False := eq_false NE12.out
    have e13 : (gb1 = gb3) = False := eq_false NE13.out
    have e42 : (gb4 = gb2) = False := eq_false N24.out.symm
    have e43 : (gb4 = gb3) = False := eq_false N34.out.symm
    have e23 : (gb2 = gb3) = False := eq_false NE23.out
    have e32 : (gb3 = gb2) = False := eq_false NE23.out.symm
    go_region_held3 (fun w' => w'.cell? ⟨gb1, 0, none⟩ = some (.slice A0 X.length k0) ∧ w'.cell? ⟨gb1, 1, none⟩ = some (.slice A1 B.length k1) ∧ w'.cell? ⟨gb1, 2, none⟩ = some (.slice A2 n2 k2) ∧ w'.cell? ⟨gb1, 3, none⟩ = some (.int .i64 (X.length : Int)) ∧ w'.cell? ⟨gb1, 4, none⟩ = some (.int .i64 nx) ∧ w'.cell? ⟨gb4, 0, none⟩ = some (.slice A18 RS.length (k0 - pl.toNat)) ∧ w'.cell? ⟨gb4, 1, none⟩ = some (.slice none 0 0)) (go_keep) (fail)
    go_wp2
    have u0 := blk_put B2.out 0 (.slice A0 X.length k0) rfl
    have u1 := blk_put u0 1 (.slice A1 B.length k1) rfl
    have u2 := blk_put u1 2 (.slice A2 n2 k2) rfl
    have u3 := blk_put u2 3 (.int .i64 (X.length : Int)) rfl
    have u4 := blk_put u3 4 (.int .i64 nx) rfl
    have u5 := blk_far (p := ⟨gb3, 0, none⟩) u4 NE23.out (.slice A18 RS.length (k0 - pl.toNat))
    have u6 := blk_far (p := ⟨gb3, 1, none⟩) u5 NE23.out (.slice none 0 0)
    have y0 := blk_far (p := ⟨gb2, 0, none⟩) B3.out NE23.out.symm (.slice A0 X.length k0)
    have y1 := blk_far (p := ⟨gb2, 1, none⟩) y0 NE23.out.symm (.slice A1 B.length k1)
    have y2 := blk_far (p := ⟨gb2, 2, none⟩) y1 NE23.out.symm (.slice A2 n2 k2)
    have y3 := blk_far (p := ⟨gb2, 3, none⟩) y2 NE23.out.symm (.int .i64 (X.length : Int))
    have y4 := blk_far (p := ⟨gb2, 4, none⟩) y3 NE23.out.symm (.int .i64 nx)
    have y5 := blk_put y4 0 (.slice A18 RS.length (k0 - pl.toNat)) rfl
    have y6 := blk_put y5 1 (.slice none 0 0) rfl
    refine bodyPost_ret (results_cc rfl _ _ gb2 gb3 44 27 #[.slice A0 X.length k0, .slice A1 B.length k1, .slice A2 n2 k2, .int .i64 (X.length : Int), .int .i64 nx] #[.slice A18 RS.length (k0 - pl.toNat), .slice none 0 0] (0, 0) (0, 0) _ _ rfl (blk_drew u6) hu44 rfl (by kernel_rfl) rfl (blk_drew y6) hu27 rfl (by kernel_rfl)) ?_ ?_
    · rfl
    have HBf := below_drew1 (below_set (j := 1) (v := .slice none 0 0) (below_set (j := 0) (v := .slice A18 RS.length (k0 - pl.toNat)) (below_set (j := 4) (v := .int .i64 nx) (below_set (j := 3) (v := .int .i64 (X.length : Int)) (below_set (j := 2) (v := .slice A2 n2 k2) (below_set (j := 1) (v := .slice A1 B.length k1) (below_set (j := 0) (v := .slice A0 X.length k0) HB6.out GE2.out) GE2.out) GE2.out) GE2.out) GE2.out) GE3.out) GE3.out)
    exact ⟨A18, k0 - pl.toNat, none, 0, rfl, HRP.out, HLC.out, fun W h => Kd.C_nil _ _, Nat.le_refl _, HBf⟩
end Go.Proofs.Ytmniedinfepmjaa.P
