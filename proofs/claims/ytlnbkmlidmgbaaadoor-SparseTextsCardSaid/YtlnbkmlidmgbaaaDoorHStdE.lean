/- strconv.Atoi at every string, Itoa, in the print's form: each by its contract off the shelf. Their conditions: internal/strconv's table of powers of ten holds what its text lays, and strconv's two error variables hold errors. -/
import Derived.Test.YtlnbkmlidmgbaaaDoorHTabE
import Derived.Test.YtlnbkmlidmgbaaaDoorHLay3
import Derived.Shelf.RegionOpenPlain
import Derived.Lib.Walk
namespace Go.Proofs.YtlnbkmlidmgbaaaDoor.P
open Go.RowKit Go.Shelf Go.Lib Go.Proofs Go.Proofs.YtlnbkmlidmgbaaaDoorW.PrintWords Go.Proofs.YtlnbkmlidmgbaaaDoorW.PrintLast Go.Proofs.YtlnbkmlidmgbaaaDoorW.PrintMore
set_option linter.unusedVariables false
set_option linter.unusedSimpArgs false

/-- A text of bytes. -/
def tx (l : List UInt8) : ByteArray := ⟨l.toArray⟩
theorem one_byte (a : ByteArray) (c : UInt8) (h : a.data.toList = [c]) : a = ⟨#[c]⟩ := by
  cases a with
  | mk d =>
    cases d with
    | mk l =>
      have h2 : l = [c] := h
      rw [h2]
theorem below_bytes {w : World} (ty : TypeId) (t : ByteArray) : Below w.heap.size w (Lib.bytesWorld w ty t) := bytes_below (Below.refl _ _) (Nat.le_refl _) _ _
theorem below_grown_drew {w : World} (k : Nat) (os : Array Obj) : Below w.heap.size w (Sort.grow (w.drewN k) os) := by
  have h := pw_below_drewN (Below.refl w.heap.size w) k
  refine ⟨h.os, h.tape, h.output, ?_, fun i hi => ?_⟩
  · show w.heap.size ≤ ((w.drewN k).heap ++ os).size
    rw [Array.size_append]
    exact Nat.le_trans h.size (Nat.le_add_right _ _)
  · show ((w.drewN k).heap ++ os)[i]? = _
    rw [Array.getElem?_append_left (Nat.lt_of_lt_of_le hi h.size)]
    exact h.block i hi

/-- What a second answer that is an error looks like. -/
def EvIs : Option Int → Value → Prop
  | none, ev => ev = .nilIface
  | some _, ev => ∃ T p, ev = .iface T p
/-- What Atoi answers. -/
def atoiV (l : List UInt8) : Int × Option Int := match Lib.atoiAll l with
  | .ok v => (v, none)
  | .syntax => (0, some 0)
  | .range => (Lib.atoiSat l, some 0)
def strconv_Atoi_45.f (a0 : ByteArray) : Option (Int × Option Int) := if a0.size ≤ 281474976710656 then some (atoiV a0.data.toList) else none
theorem strconv_Atoi_45.calls (a0 : ByteArray) (r1 : Int) (r2 : Option Int) (w : World) (h : strconv_Atoi_45.f a0 = some (r1, r2)) (HT : Tabs w) :
    Calls Tryd.prog 45 #[.string a0] w fun e w' => ∃ ev, EvIs r2 ev ∧ e = .returned (.tuple #[.int .i64 r1, ev]) ∧ Below w.heap.size w w' := by
  unfold strconv_Atoi_45.f at h
  split at h
  · rename_i hc
    have h1 := Option.some.inj h
    unfold atoiV at h1
    cases hq : Lib.atoiAll a0.data.toList with
    | ok v =>
      rw [hq] at h1
      obtain ⟨rfl, rfl⟩ := Prod.mk.inj h1
      refine (Any.strconv_Atoi_ok Tryd.laysAll172 a0 (by omega) v hq w).mono ?_
      rintro e w' ⟨rfl, hw⟩
      refine ⟨_, rfl, rfl, ?_⟩
      rcases hw with rfl | ⟨t, rfl⟩
      · exact Below.refl _ _
      · exact below_bytes _ _
    | «syntax» =>
      rw [hq] at h1
      obtain ⟨rfl, rfl⟩ := Prod.mk.inj h1
      obtain ⟨tp, p, hv⟩ := HT.syn
      refine (Any.strconv_Atoi_syntax_var Tryd.laysAll172 a0 hc hq tp p w hv).mono ?_
      rintro e w' ⟨N, rfl, _, _, hb⟩
      exact ⟨_, ⟨_, _, rfl⟩, rfl, hb⟩
    | range =>
      rw [hq] at h1
      obtain ⟨rfl, rfl⟩ := Prod.mk.inj h1
      obtain ⟨tp, p, hv⟩ := HT.rng
      refine (Any.strconv_Atoi_range_var Tryd.laysAll172 a0 hc hq tp p w hv).mono ?_
      rintro e w' ⟨N, rfl, _, _, hb⟩
      exact ⟨_, ⟨_, _, rfl⟩, rfl, hb⟩
  · cases h

def strconv_Itoa_34.f (a0 : Int) : Option ByteArray := if -9223372036854775808 ≤ a0 ∧ a0 ≤ 9223372036854775807 then some (tx (Lib.itoa a0)) else none
theorem strconv_Itoa_34.calls (a0 : Int) (r : ByteArray) (w : World) (h : strconv_Itoa_34.f a0 = some r) (HT : Tabs w) :
    Calls Tryd.prog 34 #[.int .i64 a0] w fun e w' => e = .returned (.string r) ∧ Below w.heap.size w w' := by
  unfold strconv_Itoa_34.f at h
  split at h
  · rename_i hc
    obtain rfl := Option.some.inj h
    refine (Tryd.strconv_Itoa a0 hc.1 hc.2 w HT.u).mono ?_
    rintro e w' ⟨rfl, k, os, rfl⟩
    exact ⟨rfl, below_grown_drew _ _⟩
  · cases h
/-- A row of two cells, stored to in turn, the last once more: what is read. -/
theorem sets_read2 {w : World} {g : Nat} {x y : Value} {t : TypeId} (h : w.heap[g]? = some (.cells #[x, y] t (0, 0))) :
    (∀ a b c, (((w.setCell ⟨g, 0, none⟩ a).setCell ⟨g, 1, none⟩ b).setCell ⟨g, 1, none⟩ c).cell? ⟨g, 0, none⟩ = some a) ∧
    (∀ a b c, (((w.setCell ⟨g, 0, none⟩ a).setCell ⟨g, 1, none⟩ b).setCell ⟨g, 1, none⟩ c).cell? ⟨g, 1, none⟩ = some c) := by
  have h3 : ∀ a b c, (((w.setCell ⟨g, 0, none⟩ a).setCell ⟨g, 1, none⟩ b).setCell ⟨g, 1, none⟩ c).heap[g]? = some (.cells #[a, c] t (0, 0)) := fun a b c =>
    blk_put (cs := #[a, b]) (blk_put (cs := #[a, y]) (blk_put h 0 a rfl) 1 b rfl) 1 c rfl
  exact ⟨fun a b c => (blk_cell (h3 a b c) 0).trans rfl, fun a b c => (blk_cell (h3 a b c) 1).trans rfl⟩
end Go.Proofs.YtlnbkmlidmgbaaaDoor.P
