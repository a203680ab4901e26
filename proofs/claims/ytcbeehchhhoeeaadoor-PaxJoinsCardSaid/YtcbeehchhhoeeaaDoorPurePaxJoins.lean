/- The statement PaxJoins, in lists and numbers. No conditions. -/
import Derived.Test.YtcbeehchhhoeeaaDoorHPaxV
import Derived.Test.YtcbeehchhhoeeaaDoorHPaxS
import Derived.Test.YtcbeehchhhoeeaaDoorHPaxM
import Derived.Test.YtcbeehchhhoeeaaDoorHPKnown
import Derived.Test.YtcbeehchhhoeeaaDoorHTabEL
import Derived.Test.YtcbeehchhhoeeaaDoorPx11
namespace Go.Proofs.YtcbeehchhhoeeaaDoor.Pure
open Go Go.RowKit Go.Lib Go.Proofs.YtcbeehchhhoeeaaDoor.P Go.Proofs.YtcbeehchhhoeeaaDoorW.PrintWords Go.Proofs.YtcbeehchhhoeeaaDoorW.PrintLast Go.Proofs.YtcbeehchhhoeeaaDoorW.PrintMore
set_option linter.unusedVariables false
set_option linter.unusedSimpArgs false

theorem small_merge (l m : List S41) (h : ∀ p ∈ l ++ m, SmallRec p) (hl : (l ++ m).length ≤ 1000) : pax_Merge.f l m = some (mergeL (l ++ m)) := by
  have hall : (l ++ m).all (fun p => decide (p.f0.size ≤ 9223372036854775807) && decide (p.f1.size ≤ 9223372036854775807)) = true := by
    rw [List.all_eq_true]
    intro p hp
    obtain ⟨_, a, b⟩ := h p hp
    rw [Bool.and_eq_true, decide_eq_true_iff, decide_eq_true_iff, size_len, size_len]
    exact ⟨by omega, by omega⟩
  rw [List.length_append] at hl
  unfold pax_Merge.f
  rw [if_pos ⟨by omega, hall⟩]
theorem PaxJoins : mudlarklaw03_PaxJoins.Pure := by
  intro c d hcl hcs hc hdl hds hd
  refine ⟨200, ?_⟩
  have hR := Recs_eq c hc (by omega) 6 (by omega) 200 (by omega)
  have hS := Recs_eq d hd (by omega) 6 (by omega) 200 (by omega)
  rw [show ((6 : Nat) : Int) = 6 from rfl] at hR hS
  obtain ⟨a1, a2⟩ := recsL_small c 6
  obtain ⟨b1, b2⟩ := recsL_small d 6
  generalize recsL c 6 = l at hR a1 a2
  generalize recsL d 6 = m at hS b1 b2
  have hlm : ∀ p ∈ l ++ m, SmallRec p := fun p hp => (List.mem_append.1 hp).elim (a2 p) (b2 p)
  have hln : (l ++ m).length ≤ 12 := by rw [List.length_append]; omega
  have hlm2 : ∀ p ∈ (l ++ m) ++ [], SmallRec p := fun p hp => hlm p (by rw [List.append_nil] at hp; exact hp)
  obtain ⟨x1, _, _⟩ := small_lines l a2
  obtain ⟨y1, _, _⟩ := small_lines m b2
  have hm := (merge_facts (l ++ m)).2.2.2.2
  unfold mudlarklaw03_PaxJoins.f
  rw [hR, Option.bind_some, hS, Option.bind_some, Print_small l a2 (by omega), Option.bind_some, Print_small m b2 (by omega), Option.bind_some]
  simp only
  rw [if_pos (by simp; omega), Option.bind_some, List.nil_append, if_pos (by omega), Option.bind_some, bytes_len, bytes_len, if_pos (by omega)]
  have hb : bytesOf (tx (linesL l)) ++ bytesOf (tx (linesL m)) = bytesOf (tx (linesL (l ++ m))) := by rw [bytes_of, bytes_of, bytes_of, lines_app, List.map_append]
  rw [hb, Parse_small (l ++ m) hlm (by omega), Option.bind_some]
  simp only
  rw [Same_self (l ++ m) (by omega) 200 (by omega), Option.bind_some, show mudlarklaw03_known.f = some true from rfl, Option.bind_some]
  simp only [eq_self, if_true]
  rw [small_merge (l ++ m) [] hlm2 (by rw [List.append_nil]; omega), Option.bind_some, small_merge l m hlm (by omega), Option.bind_some, List.append_nil, Same_self _ (by omega) 200 (by omega), Option.bind_some]
end Go.Proofs.YtcbeehchhhoeeaaDoor.Pure
