/- The statement PaxPrints (second form), in lists and numbers. No conditions. -/
import Derived.Test.YtcbeehchhhoeeaaDoorHPaxQ
import Derived.Test.YtcbeehchhhoeeaaDoorHPrintsW
import Derived.Test.YtcbeehchhhoeeaaDoorHTabEL
namespace Go.Proofs.YtcbeehchhhoeeaaDoor.Pure
open Go Go.RowKit Go.Lib Go.Proofs.YtcbeehchhhoeeaaDoor.P Go.Proofs.YtcbeehchhhoeeaaDoorW.PrintWords Go.Proofs.YtcbeehchhhoeeaaDoorW.PrintLast Go.Proofs.YtcbeehchhhoeeaaDoorW.PrintMore
set_option linter.unusedVariables false
set_option linter.unusedSimpArgs false

theorem bulk_cons (p : S41) (l : List S41) : recsBulk (p :: l) = p.f0.size + p.f1.size + 3 + recsBulk l := by unfold recsBulk; rw [List.map_cons, List.sum_cons]
theorem bulk_len : ∀ l : List S41, 3 * l.length ≤ recsBulk l
  | [] => by simp [recsBulk]
  | p :: l => by have := bulk_len l; rw [bulk_cons, List.length_cons]; omega
theorem bulk_each : ∀ (l : List S41) (p : S41), p ∈ l → p.f0.size + p.f1.size ≤ recsBulk l
  | [], p, h => by cases h
  | q :: l, p, h => by
    rw [bulk_cons]
    rcases List.mem_cons.1 h with rfl | h
    · omega
    · have := bulk_each l p h; omega
theorem bulk_drop (l : List S41) (i : Nat) (h : i < l.length) : recsBulk (l.drop i) = (rd_T41 l (i : Int)).f0.size + (rd_T41 l (i : Int)).f1.size + 3 + recsBulk (l.drop (i + 1)) := by
  rw [List.drop_eq_getElem_cons h, bulk_cons]
  have : rd_T41 l (i : Int) = l[i] := by unfold rd_T41; rw [Int.toNat_natCast]; simp [List.getD, h]
  rw [this]
theorem much_l0 (l : List S41) (hl : l.length ≤ 2000000) : ∀ (m i n f : Nat), i + m = l.length → n + recsBulk (l.drop i) ≤ 4000000 → m + 1 ≤ f → ∃ b, mudlarklaw03_much.l0 f l (n : Int) (i : Int) = some b
  | m, i, n, 0, h1, h2, h3 => (by omega : False).elim
  | m, i, n, f + 1, h1, h2, h3 => by
    rw [mudlarklaw03_much.l0]
    cases m with
    | zero => rw [if_neg (by omega)]; exact ⟨_, rfl⟩
    | succ m =>
      have hi : i < l.length := by omega
      have hb := bulk_drop l i hi
      rw [if_pos (by omega), if_pos (by omega), next_i i (by omega), wrap64_id (((rd_T41 l (i : Int)).f0.size : Int) + ((rd_T41 l (i : Int)).f1.size : Int)) (by omega) (by omega), wrap64_id _ (by omega) (by omega), show (n : Int) + (((rd_T41 l (i : Int)).f0.size : Int) + ((rd_T41 l (i : Int)).f1.size : Int)) = ((n + ((rd_T41 l (i : Int)).f0.size + (rd_T41 l (i : Int)).f1.size) : Nat) : Int) by omega]
      exact much_l0 l hl m (i + 1) _ f (by omega) (by omega) (by omega)
theorem prints_l0 (B : Nat) (hB : B ≤ 10000000) (l : List S41) (h : Sized B l) (hl : l.length ≤ 1000000) : ∀ (m i f : Nat), i + m = l.length → m + 2 * l.length + B + 60 ≤ f → mudlarklaw03_prints.l0 f l (i : Int) = some true
  | m, i, 0, h1, h2 => (by omega : False).elim
  | m, i, f + 1, h1, h2 => by
    rw [mudlarklaw03_prints.l0]
    cases m with
    | zero =>
      have hz : 0 ≤ (printV l).2 ∧ (printV l).2 ≤ 34 := by unfold printV; split <;> (try split) <;> simp
      rw [if_neg (by omega), Print_sized B hB l h hl, Option.bind_some, RPrint_eq B hB l h hl f (by omega), Option.bind_some, if_pos rfl, wrap64_id _ (by omega) (by omega), beq_self_eq_true]
    | succ m =>
      have hi : i < l.length := by omega
      have hp := h _ (rd_mem l i hi)
      rw [if_pos (by omega), if_pos (by omega), show pax_Right.f (rd_T41 l (i : Int)).f0 (rd_T41 l (i : Int)).f1 = some (recOk (rd_T41 l (i : Int))) from rfl, Option.bind_some, RRight_rec _ f (by omega) (by omega), Option.bind_some, if_neg (by simp), next_i i (by omega)]
      exact prints_l0 B hB l h hl m (i + 1) f (by omega) (by omega)
theorem PaxPrints : mudlarklaw03_PaxPrints.Pure := by
  intro l c hu hcl hcs hc
  refine ⟨8000000, ?_⟩
  have hlen := bulk_len l
  obtain ⟨b, hb⟩ := much_l0 l (by omega) l.length 0 l.length 8000000 (by omega) (by rw [List.drop_zero]; omega) (by omega)
  have hR := Recs_eq c hc (by omega) 12 (by omega) 7999999 (by omega)
  rw [show ((12 : Nat) : Int) = 12 from rfl] at hR
  obtain ⟨h1, h2⟩ := recsL_small c 12
  unfold mudlarklaw03_PaxPrints.f mudlarklaw03_much.f
  rw [show ((0 : Nat) : Int) = 0 from rfl] at hb
  rw [hb, Option.bind_some]
  cases b with
  | true => rw [if_pos rfl, mudlarklaw03_PaxPrints.j0, if_pos rfl]; rfl
  | false =>
    have p1 : mudlarklaw03_prints.f 7999999 l = some true := prints_l0 1048576 (by omega) l (fun p hp => by have := bulk_each l p hp; rw [← size_len, ← size_len]; omega) (by omega) l.length 0 7999999 (by omega) (by omega)
    have p2 : mudlarklaw03_prints.f 7999999 (recsL c 12) = some true := prints_l0 28 (by omega) _ (fun p hp => by have := h2 p hp; have := this.2; omega) (by omega) (recsL c 12).length 0 7999999 (by omega) (by omega)
    rw [if_neg (by simp), show mudlarklaw03_known.f = some true from rfl, Option.bind_some, show (8000000 : Nat) = 7999999 + 1 from rfl, mudlarklaw03_PaxPrints.j0, if_neg (by simp), p1, Option.bind_some, if_pos rfl, hR, Option.bind_some, p2, Option.bind_some]
end Go.Proofs.YtcbeehchhhoeeaaDoor.Pure
