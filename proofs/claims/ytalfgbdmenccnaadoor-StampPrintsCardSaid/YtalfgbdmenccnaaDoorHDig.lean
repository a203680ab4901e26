/- stamp.digits: what it tells of every string. No conditions. -/
import Derived.Test.YtalfgbdmenccnaaDoorHTab10
import Derived.Lib.OthersKept
import Derived.Laws.RangeAny
import Derived.BigCall
namespace Go.Proofs.YtalfgbdmenccnaaDoor.P
open Go.RowKit Go.Shelf Go.Lib Go.Proofs.YtalfgbdmenccnaaDoorW.PrintWords Go.Proofs.YtalfgbdmenccnaaDoorW.PrintLast Go.Proofs.YtalfgbdmenccnaaDoorW.PrintMore
set_option linter.unusedVariables false
set_option linter.unusedSimpArgs false

/-- Is the byte a digit? -/
def isDig (b : UInt8) : Bool := decide (48 ≤ b.toNat ∧ b.toNat ≤ 57)
def digsB (s : ByteArray) : Bool := s.data.toList.all isDig
def stamp_digits.f (a0 : ByteArray) (a1 : Int) : Option Bool := some (digsB a0 && (decide (a0.size ≠ 0) && decide ((a0.size : Int) ≤ a1)))

theorem drop_at (s : ByteArray) (pos : Nat) (h : pos < s.size) : s.data.toList.drop pos = s[pos]'h :: s.data.toList.drop (pos + 1) := by
  have hl : pos < s.data.toList.length := by rw [Array.length_toList]; exact h
  rw [List.drop_eq_getElem_cons hl]
  rfl
theorem empty_of (a0 : ByteArray) : (a0 = ⟨#[]⟩) ↔ a0.size = 0 := by
  constructor
  · rintro rfl
    rfl
  · intro h
    have : a0.data = #[] := Array.eq_empty_of_size_eq_zero h
    cases a0
    exact congrArg ByteArray.mk this

set_option maxHeartbeats 4000000 in
set_option maxRecDepth 1000000 in
theorem stamp_digits.calls (a0 : ByteArray) (a1 : Int) (r : Bool) (w : World) (h : stamp_digits.f a0 a1 = some r) :
    Calls Tryd.prog 22 #[.string a0, .int .i64 a1] w fun e w' => e = .returned (.bool r) ∧ Below w.heap.size w w' := by
  obtain rfl : (digsB a0 && (decide (a0.size ≠ 0) && decide ((a0.size : Int) ≤ a1))) = r := Option.some.inj h
  clear h
  go_enter Tryd.func22, Tryd.ntmps22
  go_wp2
  go_loopw [] (fun wr => ∃ (pos : Nat), wr.heap[w.heap.size]? = some (.stringIter a0 pos) ∧ Below w.heap.size w wr ∧ (a0.data.toList.drop pos).all isDig = digsB a0) (fun wr => a0.size - wr.iterPos w.heap.size)
  case atStart =>
    refine ⟨0, ?_, (Below.refl _ w).alloc (Nat.le_refl _) _, rfl⟩
    exact World.iter_heap w a0 0
  case round =>
    obtain ⟨pos, hit, hbw, hacc⟩ := hrel
    have hsz : w.heap.size < wr.heap.size := (Array.getElem?_eq_some_iff.1 hit).1
    by_cases hp : pos < a0.size
    · have hnx : ∀ ty, (Instr.next (.pointer (some ⟨w.heap.size, 0, none⟩)) true ty).run Tryd.prog wr = _ := fun ty => Lib.run_next_any_at wr w.heap.size a0 pos ty hit hp
      have hd1 := decode_le a0 pos
      rw [drop_at a0 pos hp, List.all_cons] at hacc
      by_cases hlow : (a0[pos]'hp).toNat < 128
      · have hde := decode_ascii a0 pos hp hlow
        have hit2 := Lib.iterAt_heap wr w.heap.size a0 pos (pos + (Utf8.decode a0 pos).2) hit
        have hbw2 := Lib.below_iterAt hbw (k := w.heap.size) (by omega) a0 (pos + (Utf8.decode a0 pos).2)
        rw [hde] at hnx hit2 hbw2
        by_cases hd : 48 ≤ (a0[pos]'hp).toNat ∧ (a0[pos]'hp).toNat ≤ 57
        · have hg : isDig (a0[pos]'hp) = true := decide_eq_true hd
          rw [hg, Bool.true_and] at hacc
          have HA := Aside0.mk hacc
          clear hacc
          have c1 : ¬ (((a0[pos]'hp).toNat : Nat) : Int) < 48 := by omega
          have c2 : ¬ (57 : Int) < (((a0[pos]'hp).toNat : Nat) : Int) := by omega
          clear hd hde hd1 hg
          go_wp2
          go_roundw
          case rel =>
            exact ⟨pos + 1, hit2, hbw2, HA.out⟩
          case measure =>
            simp only [World.iterPos, hit2, hit]
            omega
        · have hg : isDig (a0[pos]'hp) = false := decide_eq_false hd
          rw [hg, Bool.false_and] at hacc
          have HA := Aside0.mk hacc
          clear hacc
          by_cases c1 : (((a0[pos]'hp).toNat : Nat) : Int) < 48
          · clear hd hde hd1 hg
            go_wp2
            go_ret
            exact ⟨by rw [← HA.out]; rfl, hbw2⟩
          · have c2 : (57 : Int) < (((a0[pos]'hp).toNat : Nat) : Int) := by omega
            clear hd hde hd1 hg
            go_wp2
            go_ret
            exact ⟨by rw [← HA.out]; rfl, hbw2⟩
      · have hhi := decode_high a0 pos hp (by omega)
        have hit2 := Lib.iterAt_heap wr w.heap.size a0 pos (pos + (Utf8.decode a0 pos).2) hit
        have hbw2 := Lib.below_iterAt hbw (k := w.heap.size) (by omega) a0 (pos + (Utf8.decode a0 pos).2)
        have hg : isDig (a0[pos]'hp) = false := decide_eq_false (by omega)
        rw [hg, Bool.false_and] at hacc
        have HA := Aside0.mk hacc
        have c1 : ¬ ((Utf8.decode a0 pos).1 : Int) < 48 := by omega
        have c2 : (57 : Int) < ((Utf8.decode a0 pos).1 : Int) := by omega
        clear hacc hg hhi hlow
        go_wp2
        go_ret
        exact ⟨by rw [← HA.out]; rfl, hbw2⟩
    · have hnx : ∀ ty, (Instr.next (.pointer (some ⟨w.heap.size, 0, none⟩)) true ty).run Tryd.prog wr = _ := fun ty => Lib.run_next_end_at wr w.heap.size a0 pos ty hit hp
      rw [List.drop_eq_nil_of_le (by rw [Array.length_toList]; exact Nat.le_of_not_lt hp)] at hacc
      have hacc2 : true = digsB a0 := hacc
      have HA := Aside0.mk hacc2
      clear hacc hacc2
      by_cases he : a0.size = 0
      · obtain rfl := (empty_of a0).2 he
        clear he hp
        go_wp2
        go_ret
        exact ⟨by rw [← HA.out]; rfl, hbw⟩
      · have hne : ¬ a0 = ⟨#[]⟩ := fun hh => he ((empty_of a0).1 hh)
        have hE : (a0.toList = []) = False := by
          refine eq_false (fun hh => he ?_)
          have h2 : a0.data.toList = [] := (Lib.toList_data a0).symm.trans hh
          have h3 := congrArg List.length h2
          rwa [Array.length_toList] at h3
        have hE2 : a0.toList.isEmpty = false := by
          cases hq : a0.toList with
          | nil => exact (hE.mp hq).elim
          | cons => rfl
        by_cases hle : (a0.size : Int) ≤ a1
        · go_wp2
          go_ret
          refine ⟨?_, hbw⟩
          rw [← HA.out]
          simp [he, hle]
        · go_wp2
          go_ret
          refine ⟨?_, hbw⟩
          rw [← HA.out]
          simp [he, hle]
end Go.Proofs.YtalfgbdmenccnaaDoor.P
