/- str.Utf8 and str.Plain: what they tell of every string. Their conditions: unicode/utf8's two tables hold what their text lays. -/
import Derived.Test.YtllcgkjomeegdaaDoorHTabs
import Derived.Lib.OthersKept
import Derived.Laws.RangeAny
import Derived.BigCall
namespace Go.Proofs.YtllcgkjomeegdaaDoor.P
open Go.RowKit Go.Shelf Go.Lib Go.Proofs.YtllcgkjomeegdaaDoorW.PrintWords Go.Proofs.YtllcgkjomeegdaaDoorW.PrintLast Go.Proofs.YtllcgkjomeegdaaDoorW.PrintMore
set_option linter.unusedVariables false
set_option linter.unusedSimpArgs false

/-- No character of the text, from a place on, is none. -/
def utf8P (s : ByteArray) : Nat → Nat → Bool
  | 0, _ => true
  | fuel + 1, pos => if pos < s.size then (if (Utf8.decode s pos).1 = 65533 ∧ (Utf8.decode s pos).2 = 1 then false else utf8P s fuel (pos + (Utf8.decode s pos).2)) else true
def str_Utf8.f (a0 : ByteArray) : Option Bool := some (utf8P a0 a0.size 0)
/-- No character of the text, from a place on, is a control. -/
def plainP (s : ByteArray) : Nat → Nat → Bool
  | 0, _ => true
  | fuel + 1, pos => if pos < s.size then (if (Utf8.decode s pos).1 < 32 ∨ (Utf8.decode s pos).1 = 127 then false else plainP s fuel (pos + (Utf8.decode s pos).2)) else true
def str_Plain.f (a0 : ByteArray) : Option Bool := some (plainP a0 a0.size 0 && utf8P a0 a0.size 0)

theorem width_pos (s : ByteArray) (pos : Nat) (h : pos < s.size) : 1 ≤ (Utf8.decode s pos).2 := by
  by_cases ha : (s[pos]'h).toNat < 128
  · rw [decode_ascii s pos h ha]
    exact Nat.le_refl _
  · exact (decode_high s pos h (by omega)).2
theorem utf8P_end (s : ByteArray) (fuel pos : Nat) (h : ¬ pos < s.size) : utf8P s fuel pos = true := by
  cases fuel with
  | zero => rfl
  | succ f => simp [utf8P, h]
theorem plainP_end (s : ByteArray) (fuel pos : Nat) (h : ¬ pos < s.size) : plainP s fuel pos = true := by
  cases fuel with
  | zero => rfl
  | succ f => simp [plainP, h]
theorem get_cut (s : ByteArray) (pos i : Nat) : (s.extract pos s.size).get! i = s.get! (pos + i) := by
  cases s with
  | mk d =>
    have e : (ByteArray.mk d).extract pos (ByteArray.mk d).size = ⟨d.extract pos d.size⟩ := by
      rw [← ByteArray.data_extract]; rfl
    rw [e]
    show (d.extract pos d.size)[i]! = d[pos + i]!
    rw [getElem!_def, getElem!_def, Array.getElem?_extract]
    by_cases h : i < d.size - pos
    · rw [if_pos (by omega)]
    · rw [if_neg (by omega)]
      have : d[pos + i]? = none := Array.getElem?_eq_none (by omega)
      rw [this]
theorem decode_cut (s : ByteArray) (pos : Nat) (h : pos < s.size) : Lib.decodeGo (s.extract pos s.size) = Utf8.decode s pos := by
  have hz : (s.extract pos s.size).size = s.size - pos := by simp
  unfold Lib.decodeGo
  rw [if_neg (by omega), Lib.decode_at, Lib.decode_at, hz, get_cut, get_cut, get_cut, get_cut]
  simp

set_option maxHeartbeats 4000000 in
set_option maxRecDepth 1000000 in
theorem str_Utf8.calls (a0 : ByteArray) (r : Bool) (w : World) (h : str_Utf8.f a0 = some r) (HT_ : Tabs w) :
    Calls Tryd.prog 16 #[.string a0] w fun e w' => e = .returned (.bool r) ∧ Below w.heap.size w w' := by
  obtain rfl : utf8P a0 a0.size 0 = r := Option.some.inj h
  clear h
  have HT := Aside0.mk HT_
  clear HT_
  go_enter Tryd.func16, Tryd.ntmps16
  go_wp2
  go_loopw [] (fun wr => ∃ (pos fuel : Nat), wr.heap[w.heap.size]? = some (.stringIter a0 pos) ∧ Below w.heap.size w wr ∧ utf8P a0 fuel pos = utf8P a0 a0.size 0 ∧ a0.size ≤ pos + fuel) (fun wr => a0.size - wr.iterPos w.heap.size)
  case atStart =>
    refine ⟨0, a0.size, ?_, (Below.refl _ w).alloc (Nat.le_refl _) _, rfl, by omega⟩
    exact World.iter_heap w a0 0
  case round =>
    obtain ⟨pos, fuel, hit, hbw, hacc, hfu⟩ := hrel
    have hsz : w.heap.size < wr.heap.size := (Array.getElem?_eq_some_iff.1 hit).1
    by_cases hp : pos < a0.size
    · have hnx : ∀ ty, (Instr.next (.pointer (some ⟨w.heap.size, 0, none⟩)) true ty).run Tryd.prog wr = _ := fun ty => Lib.run_next_any_at wr w.heap.size a0 pos ty hit hp
      have hwd := width_pos a0 pos hp
      have hd1 := decode_le a0 pos
      have hit2 := Lib.iterAt_heap wr w.heap.size a0 pos (pos + (Utf8.decode a0 pos).2) hit
      have hbw2 := Lib.below_iterAt hbw (k := w.heap.size) (by omega) a0 (pos + (Utf8.decode a0 pos).2)
      obtain ⟨f, rfl⟩ : ∃ f, fuel = f + 1 := ⟨fuel - 1, by omega⟩
      simp only [utf8P, hp, if_true] at hacc
      have hpi : (pos : Int) ≤ (a0.size : Int) := by omega
      by_cases h33 : (Utf8.decode a0 pos).1 = 65533
      · have hd := decode_cut a0 pos hp
        have HD := Aside0.mk hd
        have HA := Aside0.mk hacc
        clear hd hacc
        by_cases h1 : (Utf8.decode a0 pos).2 = 1
        · rw [h1] at hit2 hbw2
          have hTc := Aside0.mk (HT.out.below hbw2)
          go_wp2_with (go_at_call 30; refine (Tryd.utf8_DecodeRuneInString _ _ hTc.out.u).mono ?_; rw [HD.out]; rintro e w1 ⟨rfl, hb⟩)
          go_ret
          refine ⟨?_, hbw2.trans (hb.mono hbw2.size)⟩
          rw [← HA.out, if_pos ⟨h33, h1⟩]
          rfl
        · have hTc := Aside0.mk (HT.out.below hbw2)
          go_wp2_with (go_at_call 30; refine (Tryd.utf8_DecodeRuneInString _ _ hTc.out.u).mono ?_; rw [HD.out]; rintro e w1 ⟨rfl, hb⟩)
          have hit3 : w1.heap[w.heap.size]? = some (.stringIter a0 (pos + (Utf8.decode a0 pos).2)) := (hb.block w.heap.size (by have := hbw2.size; have := (Array.getElem?_eq_some_iff.1 hit2).1; omega)).trans hit2
          go_roundw
          case rel =>
            refine ⟨pos + (Utf8.decode a0 pos).2, f, hit3, hbw2.trans (hb.mono hbw2.size), ?_, by omega⟩
            rw [← HA.out, if_neg (fun hh => h1 hh.2)]
          case measure =>
            simp only [World.iterPos, hit3, hit]
            omega
      · have HA := Aside0.mk hacc
        clear hacc
        go_wp2
        go_roundw
        case rel =>
          refine ⟨pos + (Utf8.decode a0 pos).2, f, hit2, hbw2, ?_, by omega⟩
          rw [← HA.out, if_neg (fun hh => h33 hh.1)]
        case measure =>
          simp only [World.iterPos, hit2, hit]
          omega
    · have hnx : ∀ ty, (Instr.next (.pointer (some ⟨w.heap.size, 0, none⟩)) true ty).run Tryd.prog wr = _ := fun ty => Lib.run_next_end_at wr w.heap.size a0 pos ty hit hp
      rw [utf8P_end a0 fuel pos hp] at hacc
      have HA := Aside0.mk hacc
      clear hacc
      go_wp2
      go_ret
      exact ⟨by rw [← HA.out]; rfl, hbw⟩
set_option maxHeartbeats 4000000 in
set_option maxRecDepth 1000000 in
theorem str_Plain.calls (a0 : ByteArray) (r : Bool) (w : World) (h : str_Plain.f a0 = some r) (HT_ : Tabs w) :
    Calls Tryd.prog 17 #[.string a0] w fun e w' => e = .returned (.bool r) ∧ Below w.heap.size w w' := by
  obtain rfl : (plainP a0 a0.size 0 && utf8P a0 a0.size 0) = r := Option.some.inj h
  clear h
  have HT := Aside0.mk HT_
  clear HT_
  obtain ⟨u, hu⟩ : ∃ u, utf8P a0 a0.size 0 = u := ⟨_, rfl⟩
  rw [hu]
  have HU := Aside0.mk hu
  clear hu
  go_enter Tryd.func17, Tryd.ntmps17
  go_wp2
  go_loopw [] (fun wr => ∃ (pos fuel : Nat), wr.heap[w.heap.size]? = some (.stringIter a0 pos) ∧ Below w.heap.size w wr ∧ plainP a0 fuel pos = plainP a0 a0.size 0 ∧ a0.size ≤ pos + fuel) (fun wr => a0.size - wr.iterPos w.heap.size)
  case atStart =>
    refine ⟨0, a0.size, ?_, (Below.refl _ w).alloc (Nat.le_refl _) _, rfl, by omega⟩
    exact World.iter_heap w a0 0
  case round =>
    obtain ⟨pos, fuel, hit, hbw, hacc, hfu⟩ := hrel
    have hsz : w.heap.size < wr.heap.size := (Array.getElem?_eq_some_iff.1 hit).1
    by_cases hp : pos < a0.size
    · have hnx : ∀ ty, (Instr.next (.pointer (some ⟨w.heap.size, 0, none⟩)) true ty).run Tryd.prog wr = _ := fun ty => Lib.run_next_any_at wr w.heap.size a0 pos ty hit hp
      have hwd := width_pos a0 pos hp
      have hd1 := decode_le a0 pos
      have hit2 := Lib.iterAt_heap wr w.heap.size a0 pos (pos + (Utf8.decode a0 pos).2) hit
      have hbw2 := Lib.below_iterAt hbw (k := w.heap.size) (by omega) a0 (pos + (Utf8.decode a0 pos).2)
      obtain ⟨f, rfl⟩ : ∃ f, fuel = f + 1 := ⟨fuel - 1, by omega⟩
      simp only [plainP, hp, if_true] at hacc
      have HA := Aside0.mk hacc
      clear hacc
      by_cases h32 : (Utf8.decode a0 pos).1 < 32
      · have h32i : ((Utf8.decode a0 pos).1 : Int) < 32 := by omega
        go_wp2
        go_ret
        exact ⟨by rw [← HA.out, if_pos (Or.inl h32)]; rfl, hbw2⟩
      · have h32i : ¬ ((Utf8.decode a0 pos).1 : Int) < 32 := by omega
        by_cases h7 : (Utf8.decode a0 pos).1 = 127
        · go_wp2
          go_ret
          exact ⟨by rw [← HA.out, if_pos (Or.inr h7)]; rfl, hbw2⟩
        · go_wp2
          go_roundw
          case rel =>
            refine ⟨pos + (Utf8.decode a0 pos).2, f, hit2, hbw2, ?_, by omega⟩
            rw [← HA.out, if_neg (fun hh => hh.elim h32 h7)]
          case measure =>
            simp only [World.iterPos, hit2, hit]
            omega
    · have hnx : ∀ ty, (Instr.next (.pointer (some ⟨w.heap.size, 0, none⟩)) true ty).run Tryd.prog wr = _ := fun ty => Lib.run_next_end_at wr w.heap.size a0 pos ty hit hp
      rw [plainP_end a0 fuel pos hp] at hacc
      have HA := Aside0.mk hacc
      clear hacc
      have hTc := Aside0.mk (HT.out.below (hbw.mono (Nat.le_refl _)))
      have hfe : str_Utf8.f a0 = some u := congrArg some HU.out
      go_wp2_with (go_at_call 16; refine (str_Utf8.calls a0 u _ hfe hTc.out).mono ?_; rintro e w1 ⟨rfl, hb⟩)
      go_ret
      exact ⟨by rw [← HA.out]; rfl, hbw.trans (hb.mono hbw.size)⟩
end Go.Proofs.YtllcgkjomeegdaaDoor.P
