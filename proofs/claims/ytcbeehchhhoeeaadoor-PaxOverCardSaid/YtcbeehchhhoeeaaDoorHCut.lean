/- strings.Cut at a separator of one byte: what it hands back, for every text. No conditions. -/
import Derived.Test.YtcbeehchhhoeeaaDoorHLay
import Derived.Test.YtcbeehchhhoeeaaDoorPx0
import Derived.Shelf.RegionOpenPlain
import Derived.Lib.Walk
import Derived.BigCall
import Derived.BigGuard
import Derived.Laws.Strings3
import Derived.Lib.CutLaws
namespace Go.Proofs.YtcbeehchhhoeeaaDoor.P
open Go.RowKit Go.Shelf Go.Lib
set_option linter.unusedVariables false
set_option linter.unusedSimpArgs false

set_option maxHeartbeats 2000000 in
set_option maxRecDepth 100000 in
theorem lite_cut (s : ByteArray) (c : UInt8) (w : World) (hs : s.size ≤ 9223372036854775806) :
    Calls Tryd.prog 56 #[.string s, .string ⟨#[c]⟩] w fun e w' => e = .returned (.tuple #[.string ⟨(Lib.cut s.data.toList [c]).1.toArray⟩, .string ⟨(Lib.cut s.data.toList [c]).2.1.toArray⟩, .bool (Lib.cut s.data.toList [c]).2.2]) ∧ ∃ n, w' = w.drewN n := by
  have hz : (⟨#[c]⟩ : ByteArray).size = 1 := rfl
  have hl : (⟨#[c]⟩ : ByteArray).data.toList = [c] := rfl
  have mixed : Tryd.prog.follows .mixedOrders = true := by kernel_rfl
  rw [← hl]
  rcases Lib.indexB_cases s ⟨#[c]⟩ with hix | ⟨i, hix, hroom⟩
  · obtain ⟨e1, e2, e3⟩ := Lib.cutB_miss s ⟨#[c]⟩ hix
    rw [e1, e2, e3]
    have hi2 : Lib.indexByte s.data.toList c = -1 := by rw [← Lib.index_one]; exact hix
    clear e1 e2 e3 hix hl
    go_enter Tryd.func56, Tryd.ntmps56
    go_wp2_with (go_at_call 65; refine (Tryd.stringslite_Index_one s c _).mono ?_; rintro e w' ⟨rfl, rfl⟩; rw [hi2])
    go_ret3
    exact ⟨rfl, 0, rfl⟩
  · obtain ⟨e1, e2, e3⟩ := Lib.cutB_hit s ⟨#[c]⟩ i hix
    rw [e1, e2, e3, hz]
    have hi2 : Lib.indexByte s.data.toList c = (i : Int) := by rw [← Lib.index_one]; exact hix
    rw [hz] at hroom
    clear e1 e2 e3 hix hl
    have c1 : (0 : Int) ≤ ↑i := by omega
    have c2 : (↑i : Int) ≤ ↑s.size := by omega
    have c3 : (0 : Int) ≤ ↑i + 1 := by omega
    have c4 : (↑i + 1 : Int) ≤ ↑s.size := by omega
    go_enter Tryd.func56, Tryd.ntmps56
    go_wp2_with (go_at_call 65; refine (Tryd.stringslite_Index_one s c _).mono ?_; rintro e w' ⟨rfl, rfl⟩; rw [hi2])
    go_region_o
    go_wp2
    go_ret3
    exact ⟨rfl, 1, rfl⟩
set_option maxHeartbeats 1000000 in
theorem cut_one (s : ByteArray) (c : UInt8) (w : World) (hs : s.size ≤ 9223372036854775806) :
    Calls Tryd.prog 43 #[.string s, .string ⟨#[c]⟩] w fun e w' => e = .returned (.tuple #[.string ⟨(Lib.cut s.data.toList [c]).1.toArray⟩, .string ⟨(Lib.cut s.data.toList [c]).2.1.toArray⟩, .bool (Lib.cut s.data.toList [c]).2.2]) ∧ ∃ n, w' = w.drewN n := by
  go_enter Tryd.func43, Tryd.ntmps43
  go_wp2_with (go_at_call 56; refine (lite_cut s c _ hs).mono ?_; rintro e w' ⟨rfl, n, rfl⟩)
  go_ret3
  exact ⟨rfl, n, rfl⟩
end Go.Proofs.YtcbeehchhhoeeaaDoor.P
