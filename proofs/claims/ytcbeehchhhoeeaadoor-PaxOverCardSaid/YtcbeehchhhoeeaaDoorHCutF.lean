/- strings.Cut at a separator of one byte in the print's form. No conditions. -/
import Derived.Test.YtcbeehchhhoeeaaDoorHStdE
import Derived.Test.YtcbeehchhhoeeaaDoorHCut
namespace Go.Proofs.YtcbeehchhhoeeaaDoor.P
open Go.RowKit Go.Shelf Go.Lib Go.Proofs Go.Proofs.YtcbeehchhhoeeaaDoorW.PrintWords Go.Proofs.YtcbeehchhhoeeaaDoorW.PrintLast Go.Proofs.YtcbeehchhhoeeaaDoorW.PrintMore
set_option linter.unusedVariables false
set_option linter.unusedSimpArgs false

def strings_Cut.f (a0 a1 : ByteArray) : Option (ByteArray × ByteArray × Bool) :=
  match a1.data.toList with
  | [c] => if a0.size ≤ 9223372036854775806 then some (tx (Lib.cut a0.data.toList [c]).1, tx (Lib.cut a0.data.toList [c]).2.1, (Lib.cut a0.data.toList [c]).2.2) else none
  | _ => none
theorem strings_Cut.calls (a0 a1 r1 r2 : ByteArray) (r3 : Bool) (w : World) (h : strings_Cut.f a0 a1 = some (r1, r2, r3)) :
    Calls Tryd.prog 43 #[.string a0, .string a1] w fun e w' => e = .returned (.tuple #[.string r1, .string r2, .bool r3]) ∧ Below w.heap.size w w' := by
  unfold strings_Cut.f at h
  split at h
  · rename_i c hc
    split at h
    · rename_i hs
      obtain ⟨rfl, h2⟩ := Prod.mk.inj (Option.some.inj h)
      obtain ⟨rfl, rfl⟩ := Prod.mk.inj h2
      rw [one_byte a1 c hc]
      refine (cut_one a0 c w hs).mono ?_
      rintro e w' ⟨rfl, n, rfl⟩
      exact ⟨rfl, pw_below_drewN (Below.refl _ _) _⟩
    · cases h
  · cases h
end Go.Proofs.YtcbeehchhhoeeaaDoor.P
