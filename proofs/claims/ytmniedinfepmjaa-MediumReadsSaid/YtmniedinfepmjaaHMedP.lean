/- A medium in memory: what New lays. No conditions. -/
import Derived.Test.YtmniedinfepmjaaHMake
namespace Go.Proofs.Ytmniedinfepmjaa.P
open Go Go.RowKit Go.Lib Go.Proofs Go.Sort Go.Proofs.YtmniedinfepmjaaW.PrintWords Go.Proofs.YtmniedinfepmjaaW.PrintLast Go.Proofs.YtmniedinfepmjaaW.PrintMore
set_option linter.unusedVariables false
set_option linter.unusedSimpArgs false

/-- A medium: its image, its sizes, its place, its next size. -/
def MedV (w : World) (base g : Nat) (v0 v1 v2 : Value) (X B S : List Int) (pl nx : Int) : Prop :=
  Kd.R (Kd.int .u8) 5 w base (fun _ => True) v0 X ∧ Kd.R (Kd.int .i64) 3 w base (fun _ => True) v1 B ∧ Kd.R (Kd.int .i64) 3 w base (fun _ => True) v2 S ∧
    w.heap[g]? = some (.cells #[v0, v1, v2, .int .i64 pl, .int .i64 nx] 61 (0, 0)) ∧ base ≤ g
def Med (w : World) (base g : Nat) (X B S : List Int) (pl nx : Int) : Prop := ∃ v0 v1 v2, MedV w base g v0 v1 v2 X B S pl nx
theorem Med.below {w w2 : World} {base g : Nat} {X B S : List Int} {pl nx : Int} (h : Med w base g X B S pl nx) (hb : Below w.heap.size w w2) : Med w2 base g X B S pl nx := by
  obtain ⟨v0, v1, v2, h0, h1, h2, hk, hg⟩ := h
  exact ⟨v0, v1, v2, Kd.R_below h0 hb, Kd.R_below h1 hb, Kd.R_below h2 hb, blk_below hk hb, hg⟩
theorem Med.lower {w : World} {base base2 g : Nat} {X B S : List Int} {pl nx : Int} (h : Med w base g X B S pl nx) (hb : base2 ≤ base) : Med w base2 g X B S pl nx := by
  obtain ⟨v0, v1, v2, h0, h1, h2, hk, hg⟩ := h
  exact ⟨v0, v1, v2, Kd.R_lower h0 hb, Kd.R_lower h1 hb, Kd.R_lower h2 hb, hk, by omega⟩
/-- What end leaves of bytes. -/
def cutE (l : List Int) (e : Int) : List Int := if 0 ≤ e ∧ e < (l.length : Int) then l.take e.toNat else l
theorem cutE_len (l : List Int) (e : Int) : (cutE l e).length ≤ l.length := by
  unfold cutE
  split
  · rw [List.length_take]; omega
  · exact Nat.le_refl _
set_option maxHeartbeats 4000000 in
set_option maxRecDepth 100000 in
theorem medium_New.calls (A0 : Option Addr) (c0 : Nat) (l0 : List Int) (A1 : Option Addr) (c1 : Nat) (l1 : List Int) (a2 : Int) (A3 : Option Addr) (c3 : Nat) (l3 : List Int) (w : World) (hr0 : Kd.C (Kd.int .u8) w A0 l0.length l0) (hc0 : l0.length ≤ c0) (hr1 : Kd.C (Kd.int .i64) w A1 l1.length l1) (hc1 : l1.length ≤ c1) (hr3 : Kd.C (Kd.int .i64) w A3 l3.length l3) (hc3 : l3.length ≤ c3)
    (hl0 : l0.length ≤ 140737488351232) (hl1 : l1.length ≤ 17592186040000) (hl3 : l3.length ≤ 17592186040000) :
    Calls Try.prog 17 #[.slice A0 l0.length c0, .slice A1 l1.length c1, .int .i64 a2, .slice A3 l3.length c3] w fun e w' => ∃ g, e = .returned (.pointer (some ⟨g, 0, none⟩)) ∧ Med w' w.heap.size g (makeB (cutE l0 a2) (badL (cutE l0 a2).length l1)) (badL (cutE l0 a2).length l1) l3 0 0 ∧ Below w.heap.size w w' := by
  have hu61 := Try.underlying61
  have hL := cutE_len l0 a2
  have HF1 : Aside0 (medium_Make.f (cutE l0 a2) l1 = some (makeB (cutE l0 a2) (badL (cutE l0 a2).length l1), badL (cutE l0 a2).length l1)) := ⟨by unfold medium_Make.f; rw [if_pos ⟨by omega, hl1⟩]⟩
  have HF2 : Aside0 (slices_Clone_int_int.f l3 = some l3) := ⟨by unfold slices_Clone_int_int.f; rw [if_pos hl3]⟩
  obtain ⟨XX, hXX⟩ : ∃ XX, XX = makeB (cutE l0 a2) (badL (cutE l0 a2).length l1) := ⟨_, rfl⟩
  obtain ⟨BB, hBB⟩ : ∃ BB, BB = badL (cutE l0 a2).length l1 := ⟨_, rfl⟩
  rw [← hXX, ← hBB] at HF1
  rw [← hXX, ← hBB]
  clear hXX hBB
  have HR1 := Aside0.mk hr1
  have HC1 := Aside0.mk hc1
  have HR3 := Aside0.mk hr3
  have HC3 := Aside0.mk hc3
  clear hr1 hc1 hr3 hc3 hL hl1 hl3
  have HB := Aside0.mk (Below.refl w.heap.size w)
  have HR0 := Aside0.mk hr0
  have HC0 := Aside0.mk hc0
  have HL0 := Aside0.mk hl0
  clear hr0 hc0 hl0
  by_cases h0 : 0 ≤ a2 ∧ a2 < (l0.length : Int)
  · obtain ⟨E, rfl⟩ : ∃ E : Nat, a2 = (E : Int) := ⟨a2.toNat, by omega⟩
    have hcut : cutE l0 (E : Int) = l0.take E := by unfold cutE; rw [if_pos h0, Int.toNat_natCast]
    rw [hcut] at HF1
    have hlen : (l0.take E).length = E := by rw [List.length_take]; omega
    have c1b : decide ((E : Int) ≥ 0) = true := decide_eq_true h0.1
    have c1c : decide (0 ≤ (E : Int)) = true := decide_eq_true h0.1
    have c2b : decide ((E : Int) < (l0.length : Int)) = true := decide_eq_true h0.2
    have c2c : (E < l0.length) = True := eq_true (by have := h0.2; omega)
    have c3b : ((E : Int) ≤ (c0 : Int)) = True := eq_true (by have := HC0.out; omega)
    have c4b : (E ≤ c0) = True := eq_true (by have := HC0.out; omega)
    have HCT : Aside0 (Kd.C (Kd.int .u8) w A0 (l0.take E).length (l0.take E)) := ⟨by
      rw [hlen]
      exact Kd.C_of_reads (h1 := fun _ => rfl) ((Kd.reads_of_C (enc := Value.int .u8) (d := (0 : Int)) (h1 := fun _ => rfl) HR0.out).take_ E (by omega))⟩
    have HCL : Aside0 ((l0.take E).length ≤ c0) := ⟨by rw [hlen]; have := HC0.out; omega⟩
    have HLE := Aside0.mk hlen
    have HM : Aside0 (Calls Try.prog 10 #[.slice A0 E c0, .slice A1 l1.length c1] w fun e w' => ∃ v0_ v1_ : Value, e = .returned (.agg #[v0_, v1_]) ∧ Kd.R (Kd.int .u8) 5 w' w.heap.size (fun _ => True) v0_ XX ∧ Kd.R (Kd.int .i64) 3 w' w.heap.size (fun _ => True) v1_ BB ∧ Below w.heap.size w w') := ⟨by
      have hq_ := (medium_Make.calls A0 c0 (l0.take E) A1 c1 l1 _ _ w HCT.out HCL.out HR1.out HC1.out HF1.out)
      rw [HLE.out] at hq_
      exact hq_⟩
    clear h0 hcut hlen HF1
    go_enter Try.func17, Try.ntmps17
    go_wp2_with (first | (go_at_call 10; with_reducible refine HM.out.mono ?_; rintro e w1 ⟨v0_, v1_, rfl, ho0, ho1, hb⟩; obtain ⟨A4_, k4_, rfl⟩ := Kd.R_slice ho0; obtain ⟨A5_, k5_, rfl⟩ := Kd.R_slice ho1; have n0_ := Aside0.mk ho0; have n1_ := Aside0.mk ho1; have n2_ := Aside0.mk (below_step HB.out hb); clear HB; have HO0 := n0_; have HO1 := n1_; have HB := n2_; clear n0_ n1_ n2_ ho0 ho1 hb) | (go_at_call 27; have HBo := Aside0.mk (below_size HB.out); refine (slices_Clone_int_int.calls A3 c3 l3 l3 _ (Kd.C_below HR3.out HB.out) HC3.out HF2.out).mono ?_; rintro e w2 ⟨v2_, rfl, ho2, hb⟩; obtain ⟨A6_, k6_, rfl⟩ := Kd.R_slice ho2; have n0_ := Aside0.mk (Kd.R_below HO0.out hb); have n1_ := Aside0.mk (Kd.R_below HO1.out hb); have n2_ := Aside0.mk (below_step HB.out hb); have n3_ := Aside0.mk (Kd.R_lower ho2 HBo.out); clear HB HO0 HO1 HBo; have HO0 := n0_; have HO1 := n1_; have HB := n2_; have HO2 := n3_; clear n0_ n1_ n2_ n3_ ho2 hb) | ((with_reducible refine gate_dst (N := 26) rfl ?_); (try (refine gate_guard (by rfl) ?_; dsimp only)); refine box_event ?hg (N := 26) ?hd (cs := #[.slice A4_ XX.length k4_, .slice A5_ BB.length k5_, .slice A6_ l3.length k6_, .int .i64 0, .int .i64 0]) (t := 61) ?hr ?_; (case hd => rfl); (case hg => rfl); (case hr => first | (go_simp; done) | (go_simp; rfl)); intro gb4 hg w4_ hbox hb; have n0_ := Aside0.mk (Kd.R_below HO0.out hb); have n1_ := Aside0.mk (Kd.R_below HO1.out hb); have n2_ := Aside0.mk (Kd.R_below HO2.out hb); have n3_ := Aside0.mk (by rw [hg]; exact below_size HB.out : w.heap.size ≤ gb4); have n4_ := Aside0.mk (below_step HB.out hb); clear HB HO0 HO1 HO2; have HO0 := n0_; have HO1 := n1_; have HO2 := n2_; have GE4 := n3_; have HB := n4_; have BK4 := Aside0.mk hbox; clear n0_ n1_ n2_ n3_ n4_ hb hg hbox))
    go_ret
    exact ⟨gb4, rfl, ⟨_, _, _, HO0.out, HO1.out, HO2.out, BK4.out, GE4.out⟩, HB.out⟩
  · have hcut : cutE l0 a2 = l0 := by unfold cutE; rw [if_neg h0]
    rw [hcut] at HF1
    have HM : Aside0 (Calls Try.prog 10 #[.slice A0 l0.length c0, .slice A1 l1.length c1] w fun e w' => ∃ v0_ v1_ : Value, e = .returned (.agg #[v0_, v1_]) ∧ Kd.R (Kd.int .u8) 5 w' w.heap.size (fun _ => True) v0_ XX ∧ Kd.R (Kd.int .i64) 3 w' w.heap.size (fun _ => True) v1_ BB ∧ Below w.heap.size w w') := ⟨medium_Make.calls A0 c0 l0 A1 c1 l1 _ _ w HR0.out HC0.out HR1.out HC1.out HF1.out⟩
    clear hcut HF1
    by_cases h1 : a2 ≥ 0
    · obtain ⟨E, rfl⟩ : ∃ E : Nat, a2 = (E : Int) := ⟨a2.toNat, by omega⟩
      have c1b : decide ((E : Int) ≥ 0) = true := decide_eq_true h1
      have c2b : decide ((E : Int) < (l0.length : Int)) = false := decide_eq_false (by omega)
      have c2c : (E < l0.length) = False := eq_false (by omega)
      clear h0 h1
      go_enter Try.func17, Try.ntmps17
      go_wp2_with (first | (go_at_call 10; with_reducible refine HM.out.mono ?_; rintro e w1 ⟨v0_, v1_, rfl, ho0, ho1, hb⟩; obtain ⟨A4_, k4_, rfl⟩ := Kd.R_slice ho0; obtain ⟨A5_, k5_, rfl⟩ := Kd.R_slice ho1; have n0_ := Aside0.mk ho0; have n1_ := Aside0.mk ho1; have n2_ := Aside0.mk (below_step HB.out hb); clear HB; have HO0 := n0_; have HO1 := n1_; have HB := n2_; clear n0_ n1_ n2_ ho0 ho1 hb) | (go_at_call 27; have HBo := Aside0.mk (below_size HB.out); refine (slices_Clone_int_int.calls A3 c3 l3 l3 _ (Kd.C_below HR3.out HB.out) HC3.out HF2.out).mono ?_; rintro e w2 ⟨v2_, rfl, ho2, hb⟩; obtain ⟨A6_, k6_, rfl⟩ := Kd.R_slice ho2; have n0_ := Aside0.mk (Kd.R_below HO0.out hb); have n1_ := Aside0.mk (Kd.R_below HO1.out hb); have n2_ := Aside0.mk (below_step HB.out hb); have n3_ := Aside0.mk (Kd.R_lower ho2 HBo.out); clear HB HO0 HO1 HBo; have HO0 := n0_; have HO1 := n1_; have HB := n2_; have HO2 := n3_; clear n0_ n1_ n2_ n3_ ho2 hb) | ((with_reducible refine gate_dst (N := 26) rfl ?_); (try (refine gate_guard (by rfl) ?_; dsimp only)); refine box_event ?hg (N := 26) ?hd (cs := #[.slice A4_ XX.length k4_, .slice A5_ BB.length k5_, .slice A6_ l3.length k6_, .int .i64 0, .int .i64 0]) (t := 61) ?hr ?_; (case hd => rfl); (case hg => rfl); (case hr => first | (go_simp; done) | (go_simp; rfl)); intro gb4 hg w4_ hbox hb; have n0_ := Aside0.mk (Kd.R_below HO0.out hb); have n1_ := Aside0.mk (Kd.R_below HO1.out hb); have n2_ := Aside0.mk (Kd.R_below HO2.out hb); have n3_ := Aside0.mk (by rw [hg]; exact below_size HB.out : w.heap.size ≤ gb4); have n4_ := Aside0.mk (below_step HB.out hb); clear HB HO0 HO1 HO2; have HO0 := n0_; have HO1 := n1_; have HO2 := n2_; have GE4 := n3_; have HB := n4_; have BK4 := Aside0.mk hbox; clear n0_ n1_ n2_ n3_ n4_ hb hg hbox))
      go_ret
      exact ⟨gb4, rfl, ⟨_, _, _, HO0.out, HO1.out, HO2.out, BK4.out, GE4.out⟩, HB.out⟩
    · have c1b : decide (a2 ≥ 0) = false := decide_eq_false h1
      have c1c : decide (0 ≤ a2) = false := decide_eq_false h1
      clear h0 h1
      go_enter Try.func17, Try.ntmps17
      go_wp2_with (first | (go_at_call 10; with_reducible refine HM.out.mono ?_; rintro e w1 ⟨v0_, v1_, rfl, ho0, ho1, hb⟩; obtain ⟨A4_, k4_, rfl⟩ := Kd.R_slice ho0; obtain ⟨A5_, k5_, rfl⟩ := Kd.R_slice ho1; have n0_ := Aside0.mk ho0; have n1_ := Aside0.mk ho1; have n2_ := Aside0.mk (below_step HB.out hb); clear HB; have HO0 := n0_; have HO1 := n1_; have HB := n2_; clear n0_ n1_ n2_ ho0 ho1 hb) | (go_at_call 27; have HBo := Aside0.mk (below_size HB.out); refine (slices_Clone_int_int.calls A3 c3 l3 l3 _ (Kd.C_below HR3.out HB.out) HC3.out HF2.out).mono ?_; rintro e w2 ⟨v2_, rfl, ho2, hb⟩; obtain ⟨A6_, k6_, rfl⟩ := Kd.R_slice ho2; have n0_ := Aside0.mk (Kd.R_below HO0.out hb); have n1_ := Aside0.mk (Kd.R_below HO1.out hb); have n2_ := Aside0.mk (below_step HB.out hb); have n3_ := Aside0.mk (Kd.R_lower ho2 HBo.out); clear HB HO0 HO1 HBo; have HO0 := n0_; have HO1 := n1_; have HB := n2_; have HO2 := n3_; clear n0_ n1_ n2_ n3_ ho2 hb) | ((with_reducible refine gate_dst (N := 26) rfl ?_); (try (refine gate_guard (by rfl) ?_; dsimp only)); refine box_event ?hg (N := 26) ?hd (cs := #[.slice A4_ XX.length k4_, .slice A5_ BB.length k5_, .slice A6_ l3.length k6_, .int .i64 0, .int .i64 0]) (t := 61) ?hr ?_; (case hd => rfl); (case hg => rfl); (case hr => first | (go_simp; done) | (go_simp; rfl)); intro gb4 hg w4_ hbox hb; have n0_ := Aside0.mk (Kd.R_below HO0.out hb); have n1_ := Aside0.mk (Kd.R_below HO1.out hb); have n2_ := Aside0.mk (Kd.R_below HO2.out hb); have n3_ := Aside0.mk (by rw [hg]; exact below_size HB.out : w.heap.size ≤ gb4); have n4_ := Aside0.mk (below_step HB.out hb); clear HB HO0 HO1 HO2; have HO0 := n0_; have HO1 := n1_; have HO2 := n2_; have GE4 := n3_; have HB := n4_; have BK4 := Aside0.mk hbox; clear n0_ n1_ n2_ n3_ n4_ hb hg hbox))
      go_ret
      exact ⟨gb4, rfl, ⟨_, _, _, HO0.out, HO1.out, HO2.out, BK4.out, GE4.out⟩, HB.out⟩
end Go.Proofs.Ytmniedinfepmjaa.P
