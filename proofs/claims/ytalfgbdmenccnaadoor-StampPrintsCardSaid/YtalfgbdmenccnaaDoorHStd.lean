/- strings.CutPrefix, Cut, Repeat, TrimRight and strconv.Atoi, Itoa in the print's form: each by its contract off the shelf. Itoa's condition: internal/strconv's table of powers of ten holds what its text lays. -/
import Derived.Test.YtalfgbdmenccnaaDoorHTab10
import Derived.Test.YtalfgbdmenccnaaDoorHCut
namespace Go.Proofs.YtalfgbdmenccnaaDoor.P
open Go.RowKit Go.Shelf Go.Lib Go.Proofs Go.Proofs.YtalfgbdmenccnaaDoorW.PrintWords Go.Proofs.YtalfgbdmenccnaaDoorW.PrintLast Go.Proofs.YtalfgbdmenccnaaDoorW.PrintMore
set_option linter.unusedVariables false
set_option linter.unusedSimpArgs false

/-- A text of bytes. -/
def tx (l : List UInt8) : ByteArray := ⟨l.toArray⟩
theorem one_byte (a : ByteArray) (c : UInt8) (h : a.data.toList = [c]) : a = ⟨#[c]⟩ := by
  cases a with
  | mk d =>
    cases d with
    | mk l =>
      have h2 : l = [c] := h
      rw [h2]
theorem below_bytes {w : World} (ty : TypeId) (t : ByteArray) : Below w.heap.size w (Lib.bytesWorld w ty t) := bytes_below (Below.refl _ _) (Nat.le_refl _) _ _
theorem below_grown_drew {w : World} (k : Nat) (os : Array Obj) : Below w.heap.size w (Sort.grow (w.drewN k) os) := by
  have h := pw_below_drewN (Below.refl w.heap.size w) k
  refine ⟨h.os, h.tape, h.output, ?_, fun i hi => ?_⟩
  · show w.heap.size ≤ ((w.drewN k).heap ++ os).size
    rw [Array.size_append]
    exact Nat.le_trans h.size (Nat.le_add_right _ _)
  · show ((w.drewN k).heap ++ os)[i]? = _
    rw [Array.getElem?_append_left (Nat.lt_of_lt_of_le hi h.size)]
    exact h.block i hi

def strings_CutPrefix.f (a0 a1 : ByteArray) : Option (ByteArray × Bool) := some (tx (Lib.trimPrefix a0.data.toList a1.data.toList), Lib.hasPrefix a0.data.toList a1.data.toList)
theorem strings_CutPrefix.calls (a0 a1 r1 : ByteArray) (r2 : Bool) (w : World) (h : strings_CutPrefix.f a0 a1 = some (r1, r2)) :
    Calls Tryd.prog 20 #[.string a0, .string a1] w fun e w' => e = .returned (.tuple #[.string r1, .bool r2]) ∧ Below w.heap.size w w' := by
  obtain ⟨rfl, rfl⟩ := Prod.mk.inj (Option.some.inj h)
  refine (Tryd.strings_CutPrefix a0 a1 w).mono ?_
  rintro e w' ⟨rfl, rfl⟩
  exact ⟨rfl, Below.refl _ _⟩

def strings_Cut.f (a0 a1 : ByteArray) : Option (ByteArray × ByteArray × Bool) :=
  match a1.data.toList with
  | [c] => if a0.size ≤ 9223372036854775806 then some (tx (Lib.cut a0.data.toList [c]).1, tx (Lib.cut a0.data.toList [c]).2.1, (Lib.cut a0.data.toList [c]).2.2) else none
  | _ => none
theorem strings_Cut.calls (a0 a1 r1 r2 : ByteArray) (r3 : Bool) (w : World) (h : strings_Cut.f a0 a1 = some (r1, r2, r3)) :
    Calls Tryd.prog 21 #[.string a0, .string a1] w fun e w' => e = .returned (.tuple #[.string r1, .string r2, .bool r3]) ∧ Below w.heap.size w w' := by
  unfold strings_Cut.f at h
  split at h
  · rename_i c hc
    split at h
    · rename_i hs
      obtain ⟨rfl, h2⟩ := Prod.mk.inj (Option.some.inj h)
      obtain ⟨rfl, rfl⟩ := Prod.mk.inj h2
      rw [one_byte a1 c hc]
      refine (cut_one a0 c w hs).mono ?_
      rintro e w' ⟨rfl, n, rfl⟩
      exact ⟨rfl, pw_below_drewN (Below.refl _ _) _⟩
    · cases h
  · cases h

def strings_Repeat.f (a0 : ByteArray) (a1 : Int) : Option ByteArray := if 0 ≤ a1 ∧ a1 ≤ 9223372036854775807 ∧ a0.size * a1.toNat ≤ 140737488355328 then some (tx (Lib.repeatL a0.data.toList a1.toNat)) else none
theorem strings_Repeat.calls (a0 : ByteArray) (a1 : Int) (r : ByteArray) (w : World) (h : strings_Repeat.f a0 a1 = some r) :
    Calls Tryd.prog 24 #[.string a0, .int .i64 a1] w fun e w' => e = .returned (.string r) ∧ Below w.heap.size w w' := by
  unfold strings_Repeat.f at h
  split at h
  · rename_i hc
    obtain ⟨h0, h1, h2⟩ := hc
    obtain rfl := Option.some.inj h
    obtain ⟨n, rfl⟩ : ∃ n : Nat, a1 = (n : Int) := ⟨a1.toNat, (Int.toNat_of_nonneg h0).symm⟩
    rw [Int.toNat_natCast] at h2 ⊢
    exact Tryd.strings_Repeat a0 n w (by omega) h2
  · cases h

def strings_TrimRight.f (a0 a1 : ByteArray) : Option ByteArray :=
  match a1.data.toList with
  | [c] => if c.toNat < 128 ∧ a0.size ≤ 9223372036854775807 then some (tx (Lib.trimRightB a0.data.toList c)) else none
  | _ => none
theorem strings_TrimRight.calls (a0 a1 r : ByteArray) (w : World) (h : strings_TrimRight.f a0 a1 = some r) :
    Calls Tryd.prog 26 #[.string a0, .string a1] w fun e w' => e = .returned (.string r) ∧ Below w.heap.size w w' := by
  unfold strings_TrimRight.f at h
  split at h
  · rename_i c hc
    split at h
    · rename_i hs
      obtain rfl := Option.some.inj h
      rw [one_byte a1 c hc]
      refine (Tryd.strings_TrimRight_one a0 c hs.1 w hs.2).mono ?_
      rintro e w' ⟨rfl, rfl⟩
      exact ⟨rfl, Below.refl _ _⟩
    · cases h
  · cases h

def strconv_Atoi_23.f (a0 : ByteArray) : Option (Int × Option Int) := if a0.size ≤ 18 then (Lib.atoi a0.data.toList).map fun n => (n, none) else none
theorem strconv_Atoi_23.calls (a0 : ByteArray) (r1 : Int) (r2 : Option Int) (w : World) (h : strconv_Atoi_23.f a0 = some (r1, r2)) :
    Calls Tryd.prog 23 #[.string a0] w fun e w' => e = .returned (.tuple #[.int .i64 r1, errW r2]) ∧ Below w.heap.size w w' := by
  unfold strconv_Atoi_23.f at h
  split at h
  · rename_i hc
    obtain ⟨n, hn, h2⟩ := Option.map_eq_some_iff.1 h
    obtain ⟨rfl, rfl⟩ := Prod.mk.inj h2
    refine (Tryd.strconv_Atoi a0 _ hc hn w).mono ?_
    rintro e w' ⟨rfl, t, rfl⟩
    exact ⟨rfl, below_bytes _ _⟩
  · cases h

def strconv_Itoa_25.f (a0 : Int) : Option ByteArray := if -9223372036854775808 ≤ a0 ∧ a0 ≤ 9223372036854775807 then some (tx (Lib.itoa a0)) else none
theorem strconv_Itoa_25.calls (a0 : Int) (r : ByteArray) (w : World) (h : strconv_Itoa_25.f a0 = some r) (HT : Tabs w) :
    Calls Tryd.prog 25 #[.int .i64 a0] w fun e w' => e = .returned (.string r) ∧ Below w.heap.size w w' := by
  unfold strconv_Itoa_25.f at h
  split at h
  · rename_i hc
    obtain rfl := Option.some.inj h
    refine (Tryd.strconv_Itoa a0 hc.1 hc.2 w HT.u).mono ?_
    rintro e w' ⟨rfl, k, os, rfl⟩
    exact ⟨rfl, below_grown_drew _ _⟩
  · cases h
/-- A row of two cells, stored to in turn: what is read (the walk's own law for it goes two stores deep). -/
theorem sets_read {w : World} {g : Nat} {x y : Value} {t : TypeId} (h : w.heap[g]? = some (.cells #[x, y] t (0, 0))) :
    (∀ a b c, (((w.setCell ⟨g, 1, none⟩ a).setCell ⟨g, 0, none⟩ b).setCell ⟨g, 0, none⟩ c).cell? ⟨g, 0, none⟩ = some c) ∧
    (∀ a b c, (((w.setCell ⟨g, 1, none⟩ a).setCell ⟨g, 0, none⟩ b).setCell ⟨g, 0, none⟩ c).cell? ⟨g, 1, none⟩ = some a) ∧
    (∀ a b c d, ((((w.setCell ⟨g, 1, none⟩ a).setCell ⟨g, 0, none⟩ b).setCell ⟨g, 0, none⟩ c).setCell ⟨g, 1, none⟩ d).cell? ⟨g, 0, none⟩ = some c) ∧
    (∀ a b c d, ((((w.setCell ⟨g, 1, none⟩ a).setCell ⟨g, 0, none⟩ b).setCell ⟨g, 0, none⟩ c).setCell ⟨g, 1, none⟩ d).cell? ⟨g, 1, none⟩ = some d) := by
  have h3 : ∀ a b c, (((w.setCell ⟨g, 1, none⟩ a).setCell ⟨g, 0, none⟩ b).setCell ⟨g, 0, none⟩ c).heap[g]? = some (.cells #[c, a] t (0, 0)) := fun a b c =>
    blk_put (cs := #[b, a]) (blk_put (cs := #[x, a]) (blk_put h 1 a rfl) 0 b rfl) 0 c rfl
  have h4 : ∀ a b c d, ((((w.setCell ⟨g, 1, none⟩ a).setCell ⟨g, 0, none⟩ b).setCell ⟨g, 0, none⟩ c).setCell ⟨g, 1, none⟩ d).heap[g]? = some (.cells #[c, d] t (0, 0)) := fun a b c d =>
    blk_put (cs := #[c, a]) (h3 a b c) 1 d rfl
  exact ⟨fun a b c => (blk_cell (h3 a b c) 0).trans rfl, fun a b c => (blk_cell (h3 a b c) 1).trans rfl, fun a b c d => (blk_cell (h4 a b c d) 0).trans rfl, fun a b c d => (blk_cell (h4 a b c d) 1).trans rfl⟩
end Go.Proofs.YtalfgbdmenccnaaDoor.P
