/- ref08.Same of a header with itself. -/
import Derived.Test.YtdeolcgabkkocaaDoorHHeader
namespace Go.Proofs.YtdeolcgabkkocaaDoor.P
open Go Go.RowKit Go.Proofs.YtdeolcgabkkocaaDoorW.PrintWords Go.Proofs.YtdeolcgabkkocaaDoorW.PrintLast Go.Proofs.YtdeolcgabkkocaaDoorW.PrintMore
set_option linter.unusedVariables false
set_option linter.unusedSimpArgs false

attribute [local go_sem high] eqA49
set_option maxRecDepth 100000 in
set_option maxHeartbeats 8000000 in
theorem Same_refl (f0 : ByteArray) (f1 f2 f3 f4 f5 f6 : Int) (f7 : ByteArray) (f8 : Int) (f9 f10 : ByteArray) (f11 f12 : Int) (f13 : ByteArray) (f14 : List S49) (f15 : Bool) (f16 : Int) (n : Nat) (A B : Option Addr) (ca cb : Nat) (w : World) (cs ct : Array Value) (hA : Kd.C k49 w A f14.length f14) (hB : Kd.C k49 w B f14.length f14) (hn : f14.length = n) (hca : n ≤ ca) (hcb : n ≤ cb)
    (hs : Hdr (⟨f0, f1, f2, f3, f4, f5, f6, f7, f8, f9, f10, f11, f12, f13, f14, f15, f16⟩ : S25) (.slice A n ca) cs) (ht : Hdr (⟨f0, f1, f2, f3, f4, f5, f6, f7, f8, f9, f10, f11, f12, f13, f14, f15, f16⟩ : S25) (.slice B n cb) ct) :
    Calls Tryd.prog 13 #[.agg cs, .agg ct] w fun e w' => e = .returned (.bool true) ∧ Below w.heap.size w w' := by
  have HA := Aside0.mk hA
  have HBB := Aside0.mk hB
  have HN := Aside0.mk hn
  have HS := Aside0.mk hs
  have HS2 := Aside0.mk ht
  clear hA hB hs ht
  go_enter Tryd.func13, Tryd.ntmps13
  go_upto_region 1 with (fail)
  have hb1 := row2_alloc w cs 25
  have hb2 := blk_below hb1 (below_alloc (Below.refl _ (w.alloc (.cells cs 25))) (.cells ct 25))
  have hb3 := row2_alloc (w.alloc (.cells cs 25)) ct 25
  have hsz : (w.alloc (.cells cs 25)).heap.size = w.heap.size + 1 := by simp [go_sem]
  rw [hsz] at hb3
  have hbw := below_alloc (below_alloc (Below.refl w.heap.size w) (.cells cs 25)) (.cells ct 25)
  change Code.wp _ _ _ _ ((w.alloc (.cells cs 25)).alloc (.cells ct 25))
  generalize (w.alloc (.cells cs 25)).alloc (.cells ct 25) = W at hb2 hb3 hbw ⊢
  have HBW := Aside0.mk hbw
  have a0 : W.cell? ⟨w.heap.size, 0, none⟩ = some (.string f0) := (blk_cell hb2 0).trans (by rw [HS.out.eq]; rfl)
  have b0 : W.cell? ⟨w.heap.size + 1, 0, none⟩ = some (.string f0) := (blk_cell hb3 0).trans (by rw [HS2.out.eq]; rfl)
  have a1 : W.cell? ⟨w.heap.size, 1, none⟩ = some (.int .i64 f1) := (blk_cell hb2 1).trans (by rw [HS.out.eq]; rfl)
  have b1 : W.cell? ⟨w.heap.size + 1, 1, none⟩ = some (.int .i64 f1) := (blk_cell hb3 1).trans (by rw [HS2.out.eq]; rfl)
  have a2 : W.cell? ⟨w.heap.size, 2, none⟩ = some (.int .i64 f2) := (blk_cell hb2 2).trans (by rw [HS.out.eq]; rfl)
  have b2 : W.cell? ⟨w.heap.size + 1, 2, none⟩ = some (.int .i64 f2) := (blk_cell hb3 2).trans (by rw [HS2.out.eq]; rfl)
  have a3 : W.cell? ⟨w.heap.size, 3, none⟩ = some (.int .i64 f3) := (blk_cell hb2 3).trans (by rw [HS.out.eq]; rfl)
  have b3 : W.cell? ⟨w.heap.size + 1, 3, none⟩ = some (.int .i64 f3) := (blk_cell hb3 3).trans (by rw [HS2.out.eq]; rfl)
  have a4 : W.cell? ⟨w.heap.size, 4, none⟩ = some (.int .i64 f4) := (blk_cell hb2 4).trans (by rw [HS.out.eq]; rfl)
  have b4 : W.cell? ⟨w.heap.size + 1, 4, none⟩ = some (.int .i64 f4) := (blk_cell hb3 4).trans (by rw [HS2.out.eq]; rfl)
  have a5 : W.cell? ⟨w.heap.size, 5, none⟩ = some (.int .i64 f5) := (blk_cell hb2 5).trans (by rw [HS.out.eq]; rfl)
  have b5 : W.cell? ⟨w.heap.size + 1, 5, none⟩ = some (.int .i64 f5) := (blk_cell hb3 5).trans (by rw [HS2.out.eq]; rfl)
  have a6 : W.cell? ⟨w.heap.size, 6, none⟩ = some (.int .u8 f6) := (blk_cell hb2 6).trans (by rw [HS.out.eq]; rfl)
  have b6 : W.cell? ⟨w.heap.size + 1, 6, none⟩ = some (.int .u8 f6) := (blk_cell hb3 6).trans (by rw [HS2.out.eq]; rfl)
  have a7 : W.cell? ⟨w.heap.size, 7, none⟩ = some (.string f7) := (blk_cell hb2 7).trans (by rw [HS.out.eq]; rfl)
  have b7 : W.cell? ⟨w.heap.size + 1, 7, none⟩ = some (.string f7) := (blk_cell hb3 7).trans (by rw [HS2.out.eq]; rfl)
  have a8 : W.cell? ⟨w.heap.size, 8, none⟩ = some (.int .i64 f8) := (blk_cell hb2 8).trans (by rw [HS.out.eq]; rfl)
  have b8 : W.cell? ⟨w.heap.size + 1, 8, none⟩ = some (.int .i64 f8) := (blk_cell hb3 8).trans (by rw [HS2.out.eq]; rfl)
  have a9 : W.cell? ⟨w.heap.size, 9, none⟩ = some (.string f9) := (blk_cell hb2 9).trans (by rw [HS.out.eq]; rfl)
  have b9 : W.cell? ⟨w.heap.size + 1, 9, none⟩ = some (.string f9) := (blk_cell hb3 9).trans (by rw [HS2.out.eq]; rfl)
  have a10 : W.cell? ⟨w.heap.size, 10, none⟩ = some (.string f10) := (blk_cell hb2 10).trans (by rw [HS.out.eq]; rfl)
  have b10 : W.cell? ⟨w.heap.size + 1, 10, none⟩ = some (.string f10) := (blk_cell hb3 10).trans (by rw [HS2.out.eq]; rfl)
  have a11 : W.cell? ⟨w.heap.size, 11, none⟩ = some (.int .i64 f11) := (blk_cell hb2 11).trans (by rw [HS.out.eq]; rfl)
  have b11 : W.cell? ⟨w.heap.size + 1, 11, none⟩ = some (.int .i64 f11) := (blk_cell hb3 11).trans (by rw [HS2.out.eq]; rfl)
  have a12 : W.cell? ⟨w.heap.size, 12, none⟩ = some (.int .i64 f12) := (blk_cell hb2 12).trans (by rw [HS.out.eq]; rfl)
  have b12 : W.cell? ⟨w.heap.size + 1, 12, none⟩ = some (.int .i64 f12) := (blk_cell hb3 12).trans (by rw [HS2.out.eq]; rfl)
  have a13 : W.cell? ⟨w.heap.size, 13, none⟩ = some (.string f13) := (blk_cell hb2 13).trans (by rw [HS.out.eq]; rfl)
  have b13 : W.cell? ⟨w.heap.size + 1, 13, none⟩ = some (.string f13) := (blk_cell hb3 13).trans (by rw [HS2.out.eq]; rfl)
  have a14 : W.cell? ⟨w.heap.size, 14, none⟩ = some (.slice A n ca) := (blk_cell hb2 14).trans (by rw [HS.out.eq]; rfl)
  have b14 : W.cell? ⟨w.heap.size + 1, 14, none⟩ = some (.slice B n cb) := (blk_cell hb3 14).trans (by rw [HS2.out.eq]; rfl)
  have a15 : W.cell? ⟨w.heap.size, 15, none⟩ = some (.bool f15) := (blk_cell hb2 15).trans (by rw [HS.out.eq]; rfl)
  have b15 : W.cell? ⟨w.heap.size + 1, 15, none⟩ = some (.bool f15) := (blk_cell hb3 15).trans (by rw [HS2.out.eq]; rfl)
  have a16 : W.cell? ⟨w.heap.size, 16, none⟩ = some (.int .i64 f16) := (blk_cell hb2 16).trans (by rw [HS.out.eq]; rfl)
  have b16 : W.cell? ⟨w.heap.size + 1, 16, none⟩ = some (.int .i64 f16) := (blk_cell hb3 16).trans (by rw [HS2.out.eq]; rfl)
  have e1 : (f1 == f1) = true := beq_self_eq_true _
  have e2 : (f2 == f2) = true := beq_self_eq_true _
  have e3 : (f3 == f3) = true := beq_self_eq_true _
  have e4 : (f4 == f4) = true := beq_self_eq_true _
  have e5 : (f5 == f5) = true := beq_self_eq_true _
  have e6 : (f6 == f6) = true := beq_self_eq_true _
  have e8 : (f8 == f8) = true := beq_self_eq_true _
  have e11 : (f11 == f11) = true := beq_self_eq_true _
  have e12 : (f12 == f12) = true := beq_self_eq_true _
  have e15 : (f15 == f15) = true := beq_self_eq_true _
  have e16 : (f16 == f16) = true := beq_self_eq_true _
  have en : ((n : Int) != (n : Int)) = false := bne_self_eq_false _
  clear hb1 hb2 hb3 hbw hsz
  go_wp2
  go_loopg [5] n (fun kq v5 wx => ∃ (i m : Nat), v5 = .int .i64 (i : Int) ∧ wx = W.drewN m ∧ Aside0 (i + kq = n))
  case atStart => exact ⟨0, 0, rfl, rfl, ⟨Nat.zero_add _⟩⟩
  case round =>
    obtain ⟨i, m, rfl, rfl, HI⟩ := hrel
    have hmx : n ≤ 9223372036854775807 := by have := HA.out.2.1; have := HN.out; omega
    by_cases hlt : i < n
    · have q0 : ((i : Int) < (n : Int)) = True := eq_true (by omega)
      have q1 : (i < n) = True := eq_true hlt
      have q2 : decide ((i : Int) < (n : Int)) = true := decide_eq_true (by omega)
      obtain ⟨ad, hAe, hx0, hx1⟩ := at_T49 HA.out (i : Int) (by omega) (by rw [HN.out]; omega)
      obtain ⟨bd, hBe, hy0, hy1⟩ := at_T49 HBB.out (i : Int) (by omega) (by rw [HN.out]; omega)
      subst hAe
      subst hBe
      obtain ⟨pp, hpp⟩ : ∃ p, p = rd_T49 f14 (i : Int) := ⟨_, rfl⟩
      rw [← hpp] at hx0 hx1 hy0 hy1
      rw [Int.toNat_natCast] at hx0 hx1 hy0 hy1
      replace hx0 := pw_cell_below HBW.out hx0
      replace hx1 := pw_cell_below HBW.out hx1
      replace hy0 := pw_cell_below HBW.out hy0
      replace hy1 := pw_cell_below HBW.out hy1
      have e20 : (pp.f0 == pp.f0) = true := beq_self_eq_true _
      have e21 : (pp.f1 == pp.f1) = true := beq_self_eq_true _
      go_wp2
      go_quiet (fail)
      go_wp2
      have hi1 := HI.out
      obtain ⟨k1, rfl⟩ : ∃ k1, gk = k1 + 1 := ⟨gk - 1, by omega⟩
      go_roundg k1
      case measure => omega
      case rel => exact ⟨i + 1, m + nq, by go_num, rfl, ⟨by omega⟩⟩
    · have q2 : decide ((i : Int) < (n : Int)) = false := decide_eq_false (by omega)
      go_wp2
      go_ret
      exact ⟨rfl, pw_below_drewN HBW.out m⟩
end Go.Proofs.YtdeolcgabkkocaaDoor.P
