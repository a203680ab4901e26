/- The law's examples come true. Its condition: internal/strconv's table of powers of ten holds what its text lays. -/
import Derived.Test.YtlnbkmlidmgbaaaDoorHSParse
import Derived.Test.YtlnbkmlidmgbaaaDoorHExpand
import Derived.Lib.SlBytesConst
namespace Go.Proofs.YtlnbkmlidmgbaaaDoor.P
open Go.RowKit Go.Shelf Go.Lib Go.Proofs.YtlnbkmlidmgbaaaDoorW.PrintWords Go.Proofs.YtlnbkmlidmgbaaaDoorW.PrintLast Go.Proofs.YtlnbkmlidmgbaaaDoorW.PrintMore
set_option linter.unusedVariables false
set_option linter.unusedSimpArgs false
set_option maxRecDepth 100000

def mudlarklaw09_known.f : Option Bool := some true
theorem known_parse : sparse_Parse.f ⟨#[48, 44, 53, 44, 49, 48, 44, 50]⟩ = some ([⟨0, 5⟩, ⟨10, 2⟩], true) := by kernel_rfl
theorem known_one : sparse_Parse.f ⟨#[49]⟩ = some ([], false) := by kernel_rfl
theorem known_expand : sparse_Expand.f [⟨0, 5⟩, ⟨10, 2⟩] 12 [97, 98, 99, 100, 101, 102, 103] = some ([97, 98, 99, 100, 101, 0, 0, 0, 0, 0, 102, 103], 0) := by kernel_rfl
theorem known_s : ((strOfNums [97, 98, 99, 100, 101, 0, 0, 0, 0, 0, 102, 103]).toList == ([97, 98, 99, 100, 101, 0, 0, 0, 0, 0, 102, 103] : List UInt8)) = true := by decide +kernel
theorem known_C (W : World) (fr : Nat × Nat) : Kd.C (Kd.int .u8) (W.alloc (.cells #[.int .u8 97, .int .u8 98, .int .u8 99, .int .u8 100, .int .u8 101, .int .u8 102, .int .u8 103] 5 fr)) (some ⟨W.heap.size, 0, none⟩) 7 [97, 98, 99, 100, 101, 102, 103] := by
  refine Kd.C_of_reads (enc := Value.int .u8) (d := (0 : Int)) (h1 := fun _ => rfl) ⟨rfl, by decide, fun _ => ⟨_, rfl, fun j hj => ?_⟩⟩
  have e : (⟨W.heap.size, 0, none⟩ : Addr).add j = ⟨W.heap.size, j, none⟩ := by unfold Addr.add; split <;> simp_all
  rw [e, World.cell?_alloc_mark]
  match j, hj with
  | 0, _ => rfl
  | 1, _ => rfl
  | 2, _ => rfl
  | 3, _ => rfl
  | 4, _ => rfl
  | 5, _ => rfl
  | 6, _ => rfl
set_option maxHeartbeats 8000000 in
theorem mudlarklaw09_known.calls (r : Bool) (w : World) (h : mudlarklaw09_known.f = some r) (HT_ : Tabs w) :
    Calls Tryd.prog 11 #[] w fun e w' => e = .returned (.bool r) ∧ Below w.heap.size w w' := by
  obtain rfl : true = r := Option.some.inj h
  have HT := Aside0.mk HT_
  have HB := Aside0.mk (Below.refl w.heap.size w)
  obtain ⟨t125, h125⟩ : ∃ t : List S40, t = [⟨0, 5⟩, ⟨10, 2⟩] := ⟨_, rfl⟩
  obtain ⟨t132, h132⟩ : ∃ t : List Int, t = [97, 98, 99, 100, 101, 0, 0, 0, 0, 0, 102, 103] := ⟨_, rfl⟩
  have hk1 := known_parse
  have hk2 := known_expand
  have hk3 := known_s
  rw [← h125] at hk1 hk2
  rw [← h132] at hk2 hk3
  have A1 := Aside0.mk hk1
  have A2 := Aside0.mk hk2
  have A3 := Aside0.mk known_one
  have c5b0 : ((t125.length : Int) == 2) = true := by rw [h125]; rfl
  have c6b0 : decide (1 < (t125.length : Int)) = true := by rw [h125]; rfl
  have g0 : (rd_T40 t125 1).f0 = 10 := by rw [h125]; rfl
  have g1 : (rd_T40 t125 1).f1 = 2 := by rw [h125]; rfl
  have c9b0 := hk3
  have kc := fun (W_ : World) (C : Array Value) (n c : Nat) => Lib.run_convert_bytes_const (P := Tryd.prog) W_ 22 5 C n c Tryd.underlying22 Tryd.underlying5
  clear h h125 h132 hk1 hk2 hk3 HT_
  go_enter Tryd.func11, Tryd.ntmps11
  go_wp2_with (first | ((with_reducible refine gate_callee (f := 20) rfl ?_); refine goesL_ (some 8) rfl rfl Tryd.func20 (by kernel_rfl) rfl #[.string (⟨#[48, 44, 53, 44, 49, 48, 44, 50]⟩ : ByteArray)] rfl (by (try simp only [List.map_toArray, List.map_cons, List.map_nil]); first | done | rfl | (simp only [List.length_drop, List.length_take]; rfl)) ?_; (with_reducible refine (sparse_Parse.calls (⟨#[48, 44, 53, 44, 49, 48, 44, 50]⟩ : ByteArray) t125 true _ A1.out (HT.out.below (by repeat (first | (with_reducible first | exact HB.out | apply below_alloc | apply pw_below_drewN | apply below_drew1) | exact HB.out)))).mono ?_); rintro e w10 ⟨v127, rfl, ho0, hb⟩; refine ⟨_, rfl, ?_⟩; have n0_ := Aside0.mk (Kd.R_lower ho0 (below_size (by repeat (first | (with_reducible first | exact HB.out | apply below_alloc | apply pw_below_drewN | apply below_drew1) | exact HB.out)))); have n1_ := Aside0.mk (below_step (by repeat (first | (with_reducible first | exact HB.out | apply below_alloc | apply pw_below_drewN | apply below_drew1) | exact HB.out)) hb); clear HB; have HO128 := n0_; have HB := n1_; clear n0_ n1_ hb ho0; obtain ⟨Ao13, co13, eo13⟩ := Kd.R_slice HO128.out; subst eo13) | ((with_reducible refine gate_callee (f := 12) rfl ?_); refine goesL_ (some 15) rfl rfl Tryd.func12 (by kernel_rfl) rfl #[.slice Ao13 t125.length co13, .int .i64 12, .slice (some ⟨w10.heap.size, 0, none⟩) 7 7] rfl (by (try simp only [List.map_toArray, List.map_cons, List.map_nil]); first | done | rfl | (simp only [List.length_drop, List.length_take]; rfl)) ?_; (refine (sparse_Expand.calls _ _ t125 12 (some ⟨w10.heap.size, 0, none⟩) 7 [97, 98, 99, 100, 101, 102, 103] t132 0 _ ?side1 ?side2 (known_C _ _) (Nat.le_refl _) A2.out).mono ?_); (case side1 => repeat (first | exact (Kd.R_reads' HO128.out).2.2 | (with_reducible refine Kd.C_alloc ?_ _) | (with_reducible refine Kd.C_drewN ?_ _) | (with_reducible refine Kd.C_drew ?_))); (case side2 => exact (Kd.R_reads' HO128.out).2.1); rintro e w15 ⟨v134, rfl, ho0, hb⟩; refine ⟨_, rfl, ?_⟩; have n0_ := Aside0.mk (Kd.R_below (by (with_reducible repeat (first | apply Kd.R_alloc | apply Kd.R_drewN | apply Kd.R_drew)); exact HO128.out) hb); have n2_ := Aside0.mk (Kd.R_lower ho0 (below_size (by repeat (first | (with_reducible first | exact HB.out | apply below_alloc | apply pw_below_drewN | apply below_drew1) | exact HB.out)))); have n3_ := Aside0.mk (below_step (by repeat (first | (with_reducible first | exact HB.out | apply below_alloc | apply pw_below_drewN | apply below_drew1) | exact HB.out)) hb); clear HO128 HB; have HO128 := n0_; have HO135 := n2_; have HB := n3_; clear n0_ n2_ n3_ hb ho0) | ((with_reducible refine gate_callee (f := 20) rfl ?_); refine goesL_ (some 19) rfl rfl Tryd.func20 (by kernel_rfl) rfl #[.string (⟨#[49]⟩ : ByteArray)] rfl (by (try simp only [List.map_toArray, List.map_cons, List.map_nil]); first | done | rfl | (simp only [List.length_drop, List.length_take]; rfl)) ?_; (with_reducible refine (sparse_Parse.calls (⟨#[49]⟩ : ByteArray) [] false _ A3.out (HT.out.below (by repeat (first | (with_reducible first | exact HB.out | apply below_alloc | apply pw_below_drewN | apply below_drew1) | exact HB.out)))).mono ?_); rintro e w16 ⟨v138, rfl, ho0, hb⟩; refine ⟨_, rfl, ?_⟩; have n0_ := Aside0.mk (Kd.R_below (by (with_reducible repeat (first | apply Kd.R_alloc | apply Kd.R_drewN | apply Kd.R_drew)); exact HO128.out) hb); have n2_ := Aside0.mk (Kd.R_below (by (with_reducible repeat (first | apply Kd.R_alloc | apply Kd.R_drewN | apply Kd.R_drew)); exact HO135.out) hb); have n4_ := Aside0.mk (below_step (by repeat (first | (with_reducible first | exact HB.out | apply below_alloc | apply pw_below_drewN | apply below_drew1) | exact HB.out)) hb); clear HO128 HO135 HB; have HO128 := n0_; have HO135 := n2_; have HB := n4_; clear n0_ n2_ n4_ hb ho0; have q140 : 1 < (t125.length : Int) := of_decide_eq_true c6b0; obtain ⟨ad140, e140, hx140_0, hx140_1⟩ := at_T40 (Kd.R_reads' HO128.out).2.2 1 (by omega) q140; cases e140; (try simp only [show (1 : Int).toNat = 1 from rfl, Nat.reduceMul, Nat.reduceEqDiff, Go.Addr.add, ↓reduceIte] at hx140_0); (try simp only [show (1 : Int).toNat = 1 from rfl, Nat.reduceMul, Nat.reduceEqDiff, Go.Addr.add, ↓reduceIte] at hx140_1); have qi140 : (1 < t125.length) = True := eq_true (by omega); (try rw [show ((1 : Int)).toNat = 1 from rfl] at hx140_0); (try rw [show 1 * 2 = 2 from rfl] at hx140_0); (try rw [show ((1 : Int)).toNat = 1 from rfl] at hx140_1); (try rw [show 1 * 2 = 2 from rfl] at hx140_1); rw [g0] at hx140_0; rw [g1] at hx140_1; replace q140 := eq_true q140; have hcv17 := own_string (P := Tryd.prog) Tryd.underlying22 Tryd.underlying5 Tryd.underlying9 (Kd.own_of_R HO135.out)))
  go_ret
  exact ⟨by first | rfl | (simp [errW_none, errW_some] <;> rfl) | (simp [*, errW_none, errW_some] <;> rfl), by repeat (first | (with_reducible first | exact HB.out | apply below_alloc | apply pw_below_drewN | apply below_drew1) | exact HB.out)⟩
end Go.Proofs.YtlnbkmlidmgbaaaDoor.P
