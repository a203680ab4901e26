/- The pure statement of SumNoughts: with a byte put into a block of noughts the block is all noughts just if the byte is one. No conditions. -/
import Derived.Test.YtmhomfhdelocjaaDoorHPure
namespace Go.Proofs.YtmhomfhdelocjaaDoor.Pure
open Go.RowKit Go.Proofs.YtmhomfhdelocjaaDoor.P Go.Proofs.YtmhomfhdelocjaaDoorW.PrintWords Go.Proofs.YtmhomfhdelocjaaDoorW.PrintLast

theorem all_set_zero (n i : Nat) (v : Int) (h : i < n) : ((List.replicate n (0 : Int)).set i v).all (fun x => decide (x = 0)) = decide (v = 0) := by
  rw [Bool.eq_iff_iff, List.all_eq_true, decide_eq_true_eq]
  constructor
  · intro h1
    have := h1 v (List.mem_iff_getElem.2 ⟨i, by rw [List.length_set, List.length_replicate]; exact h, by rw [List.getElem_set_self]⟩)
    simpa using this
  · intro h1 x hx
    rcases List.mem_or_eq_of_mem_set hx with hx | rfl
    · rw [(List.mem_replicate.1 hx).2]; rfl
    · simpa using h1

theorem SumNoughts : mudlarklaw05_SumNoughts.Pure := by
  intro a0 a1 h0 h1
  have w0 := wf_u16 h0
  refine Ev.rounds (g := fun k => mudlarklaw05_SumNoughts.f k a0 a1) ?_
  unfold mudlarklaw05_SumNoughts.f
  simp only [show (512 : Nat) ≤ 281474976710656 by decide, show (1024 : Nat) ≤ 281474976710656 by decide, if_true, Option.bind_some]
  have e : Int.tmod a0 512 = a0 % 512 := Int.tmod_eq_emod_of_nonneg w0.1
  rw [e]
  have c1 : 0 ≤ a0 % 512 := by omega
  have c2 : a0 % 512 < ((List.replicate 512 (0 : Int)).length : Int) := by rw [List.length_replicate]; omega
  simp only [if_pos c1, if_pos c2]
  refine Ev.bind known_eq ?_
  simp only [if_true, Zero_eq, Option.bind_some]
  have ez : zeroF ((List.replicate 512 (0 : Int)).set (a0 % 512).toNat a1) = (a1 == 0) := by
    unfold zeroF
    rw [List.length_set, List.length_replicate, all_set_zero 512 _ a1 (by omega)]
    rfl
  rw [ez]
  simp only [beq_self_eq_true, if_true]
  rw [show zeroF [] = false by decide, show zeroF (List.replicate 1024 0) = false by decide +kernel]
  exact Ev.now _
end Go.Proofs.YtmhomfhdelocjaaDoor.Pure
