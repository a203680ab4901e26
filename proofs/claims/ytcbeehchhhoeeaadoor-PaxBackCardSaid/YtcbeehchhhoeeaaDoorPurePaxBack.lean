/- The statement PaxBack, in lists and numbers. No conditions. -/
import Derived.Test.YtcbeehchhhoeeaaDoorHPaxV
import Derived.Test.YtcbeehchhhoeeaaDoorHPaxS
import Derived.Test.YtcbeehchhhoeeaaDoorHPKnown
import Derived.Test.YtcbeehchhhoeeaaDoorHTabEL
import Derived.Test.YtcbeehchhhoeeaaDoorPx10
namespace Go.Proofs.YtcbeehchhhoeeaaDoor.Pure
open Go Go.RowKit Go.Lib Go.Proofs.YtcbeehchhhoeeaaDoor.P Go.Proofs.YtcbeehchhhoeeaaDoorW.PrintWords Go.Proofs.YtcbeehchhhoeeaaDoorW.PrintLast Go.Proofs.YtcbeehchhhoeeaaDoorW.PrintMore
set_option linter.unusedVariables false
set_option linter.unusedSimpArgs false

theorem one_print (p : S41) (hok : recOk p = true) (hs : p.f0.data.toList.length + p.f1.data.toList.length ≤ 100000) : pax_Print.f [p] = some (bytesOf (tx (linesL [p])), 0) ∧ pax_Parse.f (bytesOf (tx (linesL [p]))) = some ([p], 0) := by
  have hsm : recS p = true := decide_eq_true (by rw [size_len, size_len]; omega)
  have hl := recL_len p hsm
  have hb := lnN_le p.f0.data.toList p.f1.data.toList (by omega)
  have hall : [p].all recOk = true := by rw [List.all_cons, hok]; rfl
  have hlen : (linesL [p]).length ≤ 200000 := by rw [lines_one]; omega
  refine ⟨?_, ?_⟩
  · unfold pax_Print.f
    rw [if_pos ⟨by simp, by rw [List.all_cons, hsm]; rfl, by omega⟩, if_pos hall, if_neg (by rw [List.length_singleton]; omega)]
  · rw [Parse_lines [p] hall (by omega), if_neg (by simp)]
def xRec (m : Nat) : S41 := ⟨(⟨#[107]⟩ : ByteArray), tx (List.replicate m 120)⟩
theorem xRec_ok (m : Nat) : recOk (xRec m) = true := by
  refine okR_of _ _ rfl (by show ([107] : List UInt8) ≠ []; simp) (fun x hx => ?_)
  rw [show (xRec m).f1.data.toList = List.replicate m 120 from rfl] at hx
  rw [List.eq_of_mem_replicate hx]
  decide
theorem back_l0 (a : Int) (n : Nat) (hn : wrap64 (Int.tmod a 1200) = (n : Int)) (hn2 : n < 1200) : ∀ (m i f : Nat), i + m = n → m + 1 ≤ f → mudlarklaw03_PaxBack.l0 f a 0 0 true (tx (List.replicate i 120)) (i : Int) = some true
  | m, i, 0, h1, h2 => (by omega : False).elim
  | m, i, f + 1, h1, h2 => by
    rw [mudlarklaw03_PaxBack.l0, hn]
    cases m with
    | succ m =>
      rw [if_pos (by omega), tx_size, List.length_replicate, if_pos (by omega), next_i i (by omega), show tx (List.replicate i 120) ++ (⟨#[120]⟩ : ByteArray) = tx (List.replicate (i + 1) 120) by rw [show (⟨#[120]⟩ : ByteArray) = tx [120] from rfl, tx_app, List.replicate_succ']]
      exact back_l0 a n hn hn2 m (i + 1) f (by omega) (by omega)
    | zero =>
      have hi : i = n := by omega
      subst hi
      obtain ⟨o1, o2⟩ := one_print (xRec i) (xRec_ok i) (by show ([107] : List UInt8).length + (List.replicate i (120 : UInt8)).length ≤ _; rw [List.length_replicate]; simp; omega)
      rw [if_neg (by omega), show ([(⟨(⟨#[107]⟩ : ByteArray), tx (List.replicate i 120)⟩ : S41)] : List S41) = [xRec i] from rfl, o1, Option.bind_some]
      simp only
      rw [o2, Option.bind_some, show mudlarklaw03_known.f = some true from rfl, Option.bind_some]
      simp only [if_true]
      rw [if_pos (by rfl), if_pos (by simp)]
      show some ((tx (List.replicate i 120)).toList == (tx (List.replicate i 120)).toList) = some true
      rw [beq_self_eq_true]
theorem PaxBack : mudlarklaw03_PaxBack.Pure := by
  intro c a hl hs hb ha
  refine ⟨1500, ?_⟩
  have hR := Recs_eq c hb (by omega) 10 (by omega) 1500 (by omega)
  rw [show ((10 : Nat) : Int) = 10 from rfl] at hR
  obtain ⟨h1, h2⟩ := recsL_small c 10
  have hP := Print_small _ h2 (by omega)
  have hQ := Parse_small _ h2 (by omega)
  have hS := Same_self (recsL c 10) (by omega) 1500 (by omega)
  have ha2 : 0 ≤ a ∧ a ≤ 65535 := by simpa [Lit.wf, IntKind.min, IntKind.max, IntKind.signed, IntKind.bits] using ha
  obtain ⟨a, rfl⟩ : ∃ n : Nat, a = (n : Int) := ⟨a.toNat, by omega⟩
  have hn : wrap64 (Int.tmod (a : Int) 1200) = ((a % 1200 : Nat) : Int) := by rw [show ((1200 : Int)) = ((1200 : Nat) : Int) from rfl, tmod_nat, wrap64_id _ (by omega) (by omega)]
  unfold mudlarklaw03_PaxBack.f
  rw [hR, Option.bind_some, hP, Option.bind_some]
  simp only
  rw [hQ, Option.bind_some]
  simp only
  rw [hS, Option.bind_some]
  have hb := back_l0 (a : Int) (a % 1200) hn (Nat.mod_lt _ (by omega)) (a % 1200) 0 1500 (by omega) (by have := Nat.mod_lt a (show 1200 > 0 by omega); omega)
  exact hb
end Go.Proofs.YtcbeehchhhoeeaaDoor.Pure
