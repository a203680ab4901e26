/- The statement PaxLong, in lists and numbers. No conditions. -/
import Derived.Test.YtcbeehchhhoeeaaDoorHPaxV
import Derived.Test.YtcbeehchhhoeeaaDoorHPKnown
import Derived.Test.YtcbeehchhhoeeaaDoorHTabEL
import Derived.Test.YtcbeehchhhoeeaaDoorPx10
namespace Go.Proofs.YtcbeehchhhoeeaaDoor.Pure
open Go Go.RowKit Go.Lib Go.Proofs.YtcbeehchhhoeeaaDoor.P Go.Proofs.YtcbeehchhhoeeaaDoorW.PrintWords Go.Proofs.YtcbeehchhhoeeaaDoorW.PrintLast Go.Proofs.YtcbeehchhhoeeaaDoorW.PrintMore
set_option linter.unusedVariables false
set_option linter.unusedSimpArgs false

def kv : S41 := ⟨(⟨#[107]⟩ : ByteArray), (⟨#[118]⟩ : ByteArray)⟩
theorem kv_len : (recL kv).length = 6 := by
  rw [recL_len kv (by decide)]
  have h : ld 5 = 1 := by unfold ld fd; rw [nDigits_small (by omega), if_pos rfl]
  show 5 + ld 5 = 6
  rw [h]
theorem kvs_len : ∀ n : Nat, (linesL (List.replicate n kv)).length = 6 * n
  | 0 => rfl
  | n + 1 => by
    have := kvs_len n
    rw [List.replicate_succ]
    have e : linesL (kv :: List.replicate n kv) = recL kv ++ linesL (List.replicate n kv) := by unfold linesL; rw [List.flatMap_cons]
    rw [e, List.length_append, kv_len, this]
    omega
theorem kvs_all (n : Nat) (f : S41 → Bool) (h : f kv = true) : (List.replicate n kv).all f = true := by
  rw [List.all_eq_true]
  intro x hx
  rw [List.eq_of_mem_replicate hx]
  exact h
theorem long_parse (n : Nat) (h : 1048576 < n) : pax_Parse.f (List.replicate n 0) = some ([], 3) := by
  unfold pax_Parse.f
  rw [List.length_replicate, if_pos h]
theorem long_l0 (a : Int) (n : Nat) (hn : wrap64 (998 + (wrap64 (Int.tmod a 5))) = (n : Int)) (hn2 : n ≤ 1002) : ∀ (m i f : Nat), i + m = n → m + 1 ≤ f → mudlarklaw03_PaxLong.l0 f a (List.replicate i kv) (i : Int) = some true
  | m, i, 0, h1, h2 => (by omega : False).elim
  | m, i, f + 1, h1, h2 => by
    rw [mudlarklaw03_PaxLong.l0, hn]
    cases m with
    | succ m =>
      rw [if_pos (by omega), List.length_replicate, if_pos (by omega), next_i i (by omega), show List.replicate i kv ++ [(⟨(⟨#[107]⟩ : ByteArray), (⟨#[118]⟩ : ByteArray)⟩ : S41)] = List.replicate (i + 1) kv by rw [List.replicate_succ']; rfl]
      exact long_l0 a n hn hn2 m (i + 1) f (by omega) (by omega)
    | zero =>
      have hi : i = n := by omega
      subst hi
      have hlen := kvs_len i
      rw [if_neg (by omega), List.length_replicate]
      by_cases hc : 1000 < i
      · have hP : pax_Print.f (List.replicate i kv) = some ([], 3) := by
          unfold pax_Print.f
          rw [if_pos ⟨by rw [List.length_replicate]; omega, kvs_all i _ (by decide), by omega⟩, if_pos (kvs_all i _ (by decide)), if_pos (Or.inl (by rw [List.length_replicate]; exact hc))]
        have hQ : pax_Parse.f [] = some ([], 0) := by
          have := Parse_lines [] rfl (by simp [linesL])
          exact this
        rw [hP, Option.bind_some]
        simp only
        rw [hQ, Option.bind_some, if_pos (by omega), long_parse _ (by omega), Option.bind_some, if_pos (by omega)]
        rfl
      · have hP : pax_Print.f (List.replicate i kv) = some (bytesOf (tx (linesL (List.replicate i kv))), 0) := by
          unfold pax_Print.f
          rw [if_pos ⟨by rw [List.length_replicate]; omega, kvs_all i _ (by decide), by omega⟩, if_pos (kvs_all i _ (by decide)), if_neg (by rw [List.length_replicate]; omega)]
        have hQ := Parse_lines (List.replicate i kv) (kvs_all i _ (by decide)) (by omega)
        rw [List.length_replicate, if_neg hc] at hQ
        rw [hP, Option.bind_some]
        simp only
        rw [hQ, Option.bind_some, if_pos (by omega), long_parse _ (by omega), Option.bind_some, if_neg (by omega), show mudlarklaw03_known.f = some true from rfl, Option.bind_some]
        simp only [if_true]
        rw [bytes_len, hlen, wrap64_id _ (by omega) (by omega), if_pos (by omega)]
        rfl
theorem PaxLong : mudlarklaw03_PaxLong.Pure := by
  intro a ha
  refine ⟨1100, ?_⟩
  have ha2 : 0 ≤ a ∧ a ≤ 255 := by simpa [Lit.wf, IntKind.min, IntKind.max, IntKind.signed, IntKind.bits] using ha
  obtain ⟨a, rfl⟩ : ∃ n : Nat, a = (n : Int) := ⟨a.toNat, by omega⟩
  have h5 := Nat.mod_lt a (show 5 > 0 by omega)
  have hn : wrap64 (998 + (wrap64 (Int.tmod (a : Int) 5))) = ((998 + a % 5 : Nat) : Int) := by rw [show ((5 : Int)) = ((5 : Nat) : Int) from rfl, tmod_nat, wrap64_id ((a % 5 : Nat) : Int) (by omega) (by omega), wrap64_id _ (by omega) (by omega)]; omega
  exact long_l0 (a : Int) (998 + a % 5) hn (by omega) (998 + a % 5) 0 1100 (by omega) (by omega)
end Go.Proofs.YtcbeehchhhoeeaaDoor.Pure
