/- mudlarklaw03.known: it holds. Its condition: internal/strconv's table of powers of ten holds what its text lays, and strconv's error variables hold errors. -/
import Derived.Test.YtcbeehchhhoeeaaDoorHPaxP
import Derived.Test.YtcbeehchhhoeeaaDoorHPaxPr
import Derived.Lib.SlBytesConst
namespace Go.Proofs.YtcbeehchhhoeeaaDoor.P
open Go Go.RowKit Go.Lib Go.Proofs Go.Proofs.YtcbeehchhhoeeaaDoorW.PrintWords Go.Proofs.YtcbeehchhhoeeaaDoorW.PrintLast Go.Proofs.YtcbeehchhhoeeaaDoorW.PrintMore
attribute [local go_sem] max2_int min2_int max_two min_two max_three min_three max_four min_four
set_option linter.unusedVariables false
set_option linter.unusedSimpArgs false

theorem lit_C (w : World) : (Kd.int .u8).C (w.alloc (.cells #[.int .u8 53, .int .u8 32, .int .u8 97, .int .u8 61, .int .u8 98, .int .u8 10] 5 (6, 7))) (some ⟨w.heap.size, 0, none⟩) 6 ([53, 32, 97, 61, 98, 10] : List Int) := by
  have hz : Kd.Z (w.alloc (.cells #[.int .u8 53, .int .u8 32, .int .u8 97, .int .u8 61, .int .u8 98, .int .u8 10] 5 (6, 7))) w.heap.size (fun _ => True) (.slice (some ⟨w.heap.size, 0, none⟩) 6 6) ([53, 32, 97, 61, 98, 10] : List Int) := by
    refine ⟨fun _ _ => trivial, .inr ⟨w.heap.size, 6, rfl, Nat.le_refl _, by simp, Nat.le_refl _, by omega, #[.int .u8 53, .int .u8 32, .int .u8 97, .int .u8 61, .int .u8 98, .int .u8 10], ?_, rfl, fun j x hj => ?_⟩⟩
    · show (w.heap.push _)[w.heap.size]? = _; exact Array.getElem?_push_size
    · have hl : j < 6 := by
        rcases Nat.lt_or_ge j 6 with h | h
        · exact h
        · rw [List.getElem?_eq_none (by simpa using h)] at hj; cases hj
      have : j = 0 ∨ j = 1 ∨ j = 2 ∨ j = 3 ∨ j = 4 ∨ j = 5 := by omega
      rcases this with rfl | rfl | rfl | rfl | rfl | rfl <;> · obtain rfl := Option.some.inj hj; rfl
  exact (Kd.Z_reads' hz).2.2
def mudlarklaw03_known.f : Option Bool := some true
set_option maxHeartbeats 8000000 in
set_option maxRecDepth 100000 in
theorem mudlarklaw03_known.calls (r : Bool) (w : World) (h : mudlarklaw03_known.f = some r) (HT_ : Tabs w) :
    Calls Tryd.prog 13 #[] w fun e w' => e = .returned (.bool r) ∧ Below w.heap.size w w' := by
  obtain rfl := Option.some.inj h
  clear h
  have HT := Aside0.mk HT_
  clear HT_
  have hu41 := Tryd.underlying41
  have HB := Aside0.mk (Below.refl w.heap.size w)
  obtain ⟨y131, hy131⟩ : ∃ y_ : List (S41), y_ = (([(⟨(⟨#[97]⟩ : ByteArray), (⟨#[98]⟩ : ByteArray)⟩ : S41)] : List (S41))) := ⟨_, rfl⟩
  have A1_ : pax_Print.f y131 = some ([54, 32, 97, 61, 98, 10], 0) := by rw [hy131]; exact known_print
  have Ny131 := Aside0.mk hy131
  clear hy131
  obtain ⟨t134, h134⟩ : ∃ t : List Int, t = [54, 32, 97, 61, 98, 10] := ⟨_, rfl⟩
  have A2_ := known_parse
  rw [← h134] at A1_ A2_
  obtain ⟨t138, h138⟩ : ∃ t : List S41, t = [aB] := ⟨_, rfl⟩
  rw [← h138] at A2_
  obtain ⟨t145, h145⟩ : ∃ t : List S41, t = [] := ⟨_, rfl⟩
  have A3_ := known_bad
  rw [← h145] at A3_
  have A1 := Aside0.mk A1_
  have A2 := Aside0.mk A2_
  have A3 := Aside0.mk A3_
  clear A1_ A2_ A3_ h145
  have c4b0 : ((strOfNums t134).toList == ([54, 32, 97, 61, 98, 10] : List UInt8)) = true := by rw [h134, show ([54, 32, 97, 61, 98, 10] : List Int) = bytesOf (tx [54, 32, 97, 61, 98, 10]) from rfl, nums_bytes, tx_toList]; rfl
  have c7b0 : ((t138.length : Int) == 1) = true := by rw [h138]; rfl
  have c8b0 : decide (0 < (t138.length : Int)) = true := by rw [h138]; rfl
  have c8b1 : decide (0 < t138.length) = true := by rw [h138]; rfl
  have c9b0 : ((((rd_T41 t138 0).f0).toList) == ([97] : List UInt8) && ((((rd_T41 t138 0).f1).toList) == ([98] : List UInt8))) = true := by rw [h138]; show ((tx [97]).toList == [97] && (tx [98]).toList == [98]) = true; rw [tx_toList, tx_toList]; rfl
  have kc := fun (W_ : World) (C : Array Value) (n c : Nat) => Lib.run_convert_bytes_const (P := Tryd.prog) W_ 22 5 C n c Tryd.underlying22 Tryd.underlying5
  have g0 : (rd_T41 t138 0).f0.toList = [97] := by rw [h138]; show (tx [97]).toList = _; rw [tx_toList]
  have g1 : (rd_T41 t138 0).f1.toList = [98] := by rw [h138]; show (tx [98]).toList = _; rw [tx_toList]
  clear h134 h138
  go_enter Tryd.func13, Tryd.ntmps13
  go_wp2_with (first | ((with_reducible refine gate_dst (N := 9) rfl ?_); (try (refine gate_guard (by rfl) ?_; dsimp only)); refine Kd.R_lit k41 _ 41 ?hg (N := 9) ?hd (xs := ([(⟨(⟨#[97]⟩ : ByteArray), (⟨#[98]⟩ : ByteArray)⟩ : S41)] : List (S41))) (inner := [.string (⟨#[97]⟩ : ByteArray), .string (⟨#[98]⟩ : ByteArray)]) (ok := fun _ => True) (okp := fun _ => True) ?hr ?hp (fun _ hk => hk) trivial (Below.refl _ _) (Nat.le_refl _) (by simp) ?_; (case hd => rfl); (case hg => rfl); (case hr => first | (go_simp; done) | (go_simp; rfl)); (case hp => exact (Reps.c2 (show Kd.M k41 _ _ _ (⟨(⟨#[97]⟩ : ByteArray), (⟨#[98]⟩ : ByteArray)⟩ : S41) [.string (⟨#[97]⟩ : ByteArray), .string (⟨#[98]⟩ : ByteArray)] from (k41_mkM _ _ _ (⟨(⟨#[97]⟩ : ByteArray), (⟨#[98]⟩ : ByteArray)⟩ : S41) )) (Reps.none _ _))); intro v132 w10 ho11 hb hg_ hnew_; clear hg_ hnew_; (first | rw [← Ny131.out] at ho11 | (simp only [Int.reduceToNat] at ho11; rw [← Ny131.out] at ho11)); have n0_ := Aside0.mk (Kd.R_lower ho11 (below_size (by repeat (first | (with_reducible first | exact HB.out | apply below_alloc | apply pw_below_drewN | apply below_drew1) | exact HB.out)))); have n1_ := Aside0.mk (below_step (by repeat (first | (with_reducible first | exact HB.out | apply below_alloc | apply pw_below_drewN | apply below_drew1) | exact HB.out)) hb); clear HB; have HO133 := n0_; have HB := n1_; clear n0_ n1_; clear hb ho11; obtain ⟨Ao12, co12, eo12⟩ := Kd.R_slice HO133.out; subst eo12) | ((with_reducible refine gate_callee (f := 12) rfl ?_); refine goesL_ (some 10) rfl rfl Tryd.func12 (by kernel_rfl) rfl #[.slice Ao12 y131.length co12] rfl (by (try simp only [List.map_toArray, List.map_cons, List.map_nil]); first | done | rfl | (simp only [List.length_drop, List.length_take]; rfl)) ?_; (with_reducible refine (pax_Print.calls _ _ y131 t134 0 _ ?side1 ?side2 A1.out (HT.out.below (by repeat (first | (with_reducible first | exact HB.out | apply below_alloc | apply pw_below_drewN | apply below_drew1) | exact HB.out)))).mono ?_); (case side1 => repeat (first | exact (Kd.R_reads' HO133.out).2.2 | (with_reducible refine Kd.C_alloc ?_ _) | (with_reducible refine Kd.C_drewN ?_ _) | (with_reducible refine Kd.C_drew ?_))); (case side2 => exact (Kd.R_reads' HO133.out).2.1); rintro e w13 ⟨v136, rfl, ho0, hb⟩; refine ⟨_, rfl, ?_⟩; have n0_ := Aside0.mk (Kd.R_below (by (with_reducible repeat (first | apply Kd.R_alloc | apply Kd.R_drewN | apply Kd.R_drew)); exact HO133.out) hb); have n1_ := Aside0.mk (Kd.Z_lower ho0 (below_size (by repeat (first | (with_reducible first | exact HB.out | apply below_alloc | apply pw_below_drewN | apply below_drew1) | exact HB.out)))); have n2_ := Aside0.mk (below_step (by repeat (first | (with_reducible first | exact HB.out | apply below_alloc | apply pw_below_drewN | apply below_drew1) | exact HB.out)) hb); clear HO133; clear HB; have HO133 := n0_; have HO137 := n1_; have HB := n2_; clear n0_ n1_ n2_; (try clear hb); (try clear hb2); (try clear hk); (try clear hi); (try clear ho0); obtain ⟨Ao14, co14, eo14⟩ := Kd.Z_slice HO137.out; subst eo14) | ((with_reducible refine gate_callee (f := 14) rfl ?_); refine goesL_ (some 15) rfl rfl Tryd.func14 (by kernel_rfl) rfl #[.slice Ao14 t134.length co14] rfl (by (try simp only [List.map_toArray, List.map_cons, List.map_nil]); first | done | rfl | (simp only [List.length_drop, List.length_take]; rfl)) ?_; (with_reducible refine (pax_Parse.calls _ _ t134 t138 0 _ ?side1 ?side2 A2.out (HT.out.below (by repeat (first | (with_reducible first | exact HB.out | apply below_alloc | apply pw_below_drewN | apply below_drew1) | exact HB.out)))).mono ?_); (case side1 => repeat (first | exact (Kd.Z_reads' HO137.out).2.2 | (with_reducible refine Kd.C_alloc ?_ _) | (with_reducible refine Kd.C_drewN ?_ _) | (with_reducible refine Kd.C_drew ?_))); (case side2 => exact (Kd.Z_reads' HO137.out).2.1); rintro e w15 ⟨v140, rfl, ho0, hb⟩; refine ⟨_, rfl, ?_⟩; have n0_ := Aside0.mk (Kd.R_elder' (by (with_reducible repeat (first | apply Kd.R_alloc | apply Kd.R_drewN | apply Kd.R_drew)); exact HO133.out) (Kd.R_base ho0) hb); have n1_ := Aside0.mk (Kd.Z_below (by (with_reducible repeat (first | apply Kd.Z_alloc | apply Kd.Z_drewN | apply Kd.Z_drew)); exact HO137.out) hb); have n2_ := Aside0.mk (Kd.R_lower (Kd.R_new' ho0 (Kd.R_lt (by (with_reducible repeat (first | apply Kd.R_alloc | apply Kd.R_drewN | apply Kd.R_drew)); exact HO133.out))) (below_size (by repeat (first | (with_reducible first | exact HB.out | apply below_alloc | apply pw_below_drewN | apply below_drew1) | exact HB.out)))); have n3_ := Aside0.mk (below_step (by repeat (first | (with_reducible first | exact HB.out | apply below_alloc | apply pw_below_drewN | apply below_drew1) | exact HB.out)) hb); clear HO133; clear HO137; clear HB; have HO133 := n0_; have HO137 := n1_; have HO141 := n2_; have HB := n3_; clear n0_ n1_ n2_ n3_; (try clear hb); (try clear hb2); (try clear hk); (try clear hi); (try clear ho0)) | (go_at_call 14; (refine (pax_Parse.calls (some ⟨w15.heap.size, 0, none⟩) 6 ([53, 32, 97, 61, 98, 10] : List Int) t145 34 _ ?side1 ?side2 A3.out (HT.out.below (below_alloc HB.out _))).mono ?_); (case side1 => exact lit_C w15); (case side2 => exact Nat.le_refl _); rintro e w19 ⟨v147, rfl, ho0, hb⟩; have n1_ := Aside0.mk (Kd.Z_below (Kd.Z_alloc HO137.out (.cells #[.int .u8 53, .int .u8 32, .int .u8 97, .int .u8 61, .int .u8 98, .int .u8 10] 5 (6, 7))) hb); have n2_ := Aside0.mk (Kd.R_below (Kd.R_alloc HO141.out (.cells #[.int .u8 53, .int .u8 32, .int .u8 97, .int .u8 61, .int .u8 98, .int .u8 10] 5 (6, 7))) hb); have n5_ := Aside0.mk (below_step (below_alloc HB.out (.cells #[.int .u8 53, .int .u8 32, .int .u8 97, .int .u8 61, .int .u8 98, .int .u8 10] 5 (6, 7))) hb); clear HO133 HO137 HO141 HB hb ho0; have HO137 := n1_; have HO141 := n2_; have HB := n5_; clear n1_ n2_ n5_; have hcv20 := Kd.Z_string (P := Tryd.prog) Tryd.underlying22 Tryd.underlying5 Tryd.underlying9 HO137.out; (try have hcv20d := fun m_ => Kd.Z_string (P := Tryd.prog) Tryd.underlying22 Tryd.underlying5 Tryd.underlying9 (Kd.Z_drewN HO137.out m_)); obtain ⟨Ao21, co21, eo21⟩ := Kd.R_slice HO141.out; subst eo21; have p149 : 0 ≤ (0 : Int) := (by omega); have q149 : 0 < (t138.length : Int) := of_decide_eq_true (by first | (with_reducible assumption) | assumption); obtain ⟨ad149, e149, hx149_0, hx149_1⟩ := at_T41 (Kd.R_reads' HO141.out).2.2 0 p149 q149; cases e149; have qi149 : (0 < t138.length) = True := eq_true (by omega); (try rw [show ((0 : Int)).toNat = 0 from rfl] at hx149_0); (try rw [show 0 * 2 = 0 from rfl] at hx149_0); (try rw [Addr.add_zero'] at hx149_0); (try rw [show ((0 : Int)).toNat = 0 from rfl] at hx149_1); (try rw [show 0 * 2 = 0 from rfl] at hx149_1); (try rw [Addr.add_zero'] at hx149_1); replace p149 := eq_true p149; replace q149 := eq_true q149))
  all_goals first | (exact absurd g0 (by assumption)) | (exact absurd g1 (by assumption)) | (go_ret; exact ⟨rfl, HB.out⟩)
end Go.Proofs.YtcbeehchhhoeeaaDoor.P
