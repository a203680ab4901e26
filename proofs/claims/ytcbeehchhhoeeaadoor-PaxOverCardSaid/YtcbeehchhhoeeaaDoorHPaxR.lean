/- pax.Right: what it answers for every record. No conditions. -/
import Derived.Test.YtcbeehchhhoeeaaDoorHLay
import Derived.Test.YtcbeehchhhoeeaaDoorPx0
import Derived.Test.YtcbeehchhhoeeaaDoorHPaxT
import Derived.Shelf.RegionOpenPlain
import Derived.Lib.Walk
namespace Go.Proofs.YtcbeehchhhoeeaaDoor.P
open Go.RowKit Go.Shelf Go.Lib Go.Proofs Go.Proofs.YtcbeehchhhoeeaaDoorW.PrintWords Go.Proofs.YtcbeehchhhoeeaaDoorW.PrintLast Go.Proofs.YtcbeehchhhoeeaaDoorW.PrintMore
set_option linter.unusedVariables false
set_option linter.unusedSimpArgs false

theorem odd_pred (w : World) : PredAt Tryd.prog 38 #[] encR oddr w := fun W r _ => by
  unfold FnGives
  have z1 : ((r : Int) < 33) ↔ r < 33 := by omega
  have z2 : ((126 : Int) < (r : Int)) ↔ 126 < r := by omega
  have z3 : ((r : Int) = 61) ↔ r = 61 := by omega
  by_cases h1 : r < 33 <;> by_cases h2 : 126 < r <;> by_cases h3 : r = 61
  all_goals
    go_enter Tryd.func38, Tryd.ntmps38
    go_wp2
    all_goals first | (exfalso; omega) | (go_ret; exact ⟨by simp [oddr, h1, h2, h3, z1, z2, z3], 0, rfl⟩)

def pax_Right.f (a0_0 a0_1 : ByteArray) : Option Bool := some (okR a0_0.data.toList a0_1.data.toList)
theorem right_v (k v : ByteArray) : okR k.data.toList v.data.toList = (!(k.toList == ([] : List UInt8)) && (!(decide (0 ≤ idxFunc oddr true k)) && decide (indexByte v.data.toList 0 < 0))) := by
  rw [idx_all, ix0_all, Bool.not_not]
  unfold okR
  rw [Lib.toList_data]
  by_cases h : k.data.toList = []
  · rw [h]; simp
  · generalize k.data.toList.all okb = x
    generalize (v.data.toList.all fun b => decide (b.toNat ≠ 0)) = y
    have e : (k.data.toList == ([] : List UInt8)) = false := beq_eq_false_iff_ne.2 h
    rw [e, decide_eq_true h]
    cases x <;> cases y <;> rfl
set_option maxHeartbeats 4000000 in
set_option maxRecDepth 100000 in
theorem pax_Right.calls (a0_0 a0_1 : ByteArray) (r : Bool) (w : World) (h : pax_Right.f a0_0 a0_1 = some r) :
    Calls Tryd.prog 23 #[.agg #[.string a0_0, .string a0_1]] w fun e w' => e = .returned (.bool r) ∧ Below w.heap.size w w' := by
  have hu41 := Tryd.underlying41
  have HB := Aside0.mk (Below.refl w.heap.size w)
  have HV := Aside0.mk (show r = (!(a0_0.toList == ([] : List UInt8)) && (!(decide (0 ≤ idxFunc oddr true a0_0)) && decide (indexByte a0_1.data.toList 0 < 0))) by
    rw [← right_v]; exact (Option.some.inj h).symm)
  clear h
  have hC := fun W => Tryd.strings_ContainsFunc 38 #[] (enters_of Tryd.func38 (by kernel_rfl) rfl) _ a0_0 W (odd_pred W)
  have hI := fun W => Tryd.strings_IndexByte a0_1 0 W
  obtain ⟨b1, hb1⟩ : ∃ b, decide (0 ≤ idxFunc oddr true a0_0) = b := ⟨_, rfl⟩
  obtain ⟨n2, hn2⟩ : ∃ b, indexByte a0_1.data.toList 0 = b := ⟨_, rfl⟩
  rw [hb1] at hC HV
  obtain ⟨b0, hb0⟩ : ∃ b, (a0_0.toList == ([] : List UInt8)) = b := ⟨_, rfl⟩
  rw [hb0, hn2] at HV
  cases b0 <;> cases b1
  all_goals
    go_enter Tryd.func23, Tryd.ntmps23
    go_wp2_with (first | ((with_reducible refine gate_dst (N := 1) rfl ?_); refine box_event ?hg (N := 1) ?hd (cs := #[.string a0_0, .string a0_1]) (t := 41) ?hr ?_; (case hd => rfl); (case hg => rfl); (case hr => first | (go_simp; done) | (go_simp; rfl)); intro gb hg_ w6 hbox hb; have n0_ := Aside0.mk (below_step HB.out hb); have n1_ := Aside0.mk hbox; have n2_ := Aside0.mk (show w.heap.size ≤ gb by rw [hg_]; exact below_size HB.out); clear HB; have HB := n0_; have BK := n1_; have GE := n2_; clear n0_ n1_ n2_ hb hbox hg_; have hcz0 : w6.cell? ⟨gb, 0, none⟩ = some (.string a0_0) := (blk_cell BK.out 0).trans rfl; have hcz1 : w6.cell? ⟨gb, 1, none⟩ = some (.string a0_1) := (blk_cell BK.out 1).trans rfl; have hfz0 := blk_frozen BK.out 0; have hfz1 := blk_frozen BK.out 1) | (go_at_call 39; refine (hC _).mono ?_; rintro e w7 ⟨rfl, hb⟩; have n0_ := Aside0.mk (below_step HB.out hb); have n1_ := Aside0.mk (blk_below BK.out hb); clear HB BK hb hcz0 hcz1 hfz0 hfz1; have HB := n0_; have BK := n1_; clear n0_ n1_; have hcz0 : w7.cell? ⟨gb, 0, none⟩ = some (.string a0_0) := (blk_cell BK.out 0).trans rfl; have hcz1 : w7.cell? ⟨gb, 1, none⟩ = some (.string a0_1) := (blk_cell BK.out 1).trans rfl; have hfz0 := blk_frozen BK.out 0; have hfz1 := blk_frozen BK.out 1) | (go_at_call 40; refine (hI _).mono ?_; rintro e w8 ⟨rfl, rfl⟩; rw [show (Int.toNat 0).toUInt8 = (0 : UInt8) from rfl, hn2]))
    go_ret
    exact ⟨by rw [HV.out]; rfl, HB.out⟩
end Go.Proofs.YtcbeehchhhoeeaaDoor.P
