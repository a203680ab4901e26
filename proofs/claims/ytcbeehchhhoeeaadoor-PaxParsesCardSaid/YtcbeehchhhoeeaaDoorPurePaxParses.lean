/- The statement PaxParses, in lists and numbers. No conditions. -/
import Derived.Test.YtcbeehchhhoeeaaDoorHPaxQ2
import Derived.Test.YtcbeehchhhoeeaaDoorHPaxS
import Derived.Test.YtcbeehchhhoeeaaDoorHTabEL
namespace Go.Proofs.YtcbeehchhhoeeaaDoor.Pure
open Go Go.RowKit Go.Lib Go.Proofs.YtcbeehchhhoeeaaDoor.P Go.Proofs.YtcbeehchhhoeeaaDoorW.PrintWords Go.Proofs.YtcbeehchhhoeeaaDoorW.PrintLast Go.Proofs.YtcbeehchhhoeeaaDoorW.PrintMore
set_option linter.unusedVariables false
set_option linter.unusedSimpArgs false

theorem parses_ok (b : List Int) (hb : ∀ x ∈ b, (Lit.int .u8 x).wf = true) (hl : b.length ≤ 1000) (f : Nat) (hf : 5000 ≤ f) : mudlarklaw03_parses.f f b = some true := by
  obtain ⟨s, rfl⟩ := bytes_ex b hb
  rw [bytes_len] at hl
  obtain ⟨h1, q, h2, h3, h4, h5⟩ := RParse_eq s (by omega) f (by omega)
  unfold mudlarklaw03_parses.f
  rw [h1, h2, Option.bind_some, Option.bind_some, Same_self q.1 (by omega) f (by omega), Option.bind_some, if_pos rfl, wrap64_id _ (by omega) (by omega), beq_self_eq_true]
theorem tmod_pos (a b : Nat) : Int.tmod (a : Int) (b : Int) = ((a % b : Nat) : Int) := tmod_nat a b
theorem j2_ok (b : List Int) (hb : ∀ x ∈ b, (Lit.int .u8 x).wf = true) (hl : b.length ≤ 1000) (a : Nat) (ha : a ≤ 65535) (how : Int) (x : List Int) (hx : ∀ y ∈ x, (Lit.int .u8 y).wf = true) (hxl : x.length ≤ 1000) (f : Nat) (hf : 5001 ≤ f) : mudlarklaw03_PaxParses.j2 f b (a : Int) how x = some true := by
  obtain ⟨f, rfl⟩ : ∃ q, f = q + 1 := ⟨f - 1, by omega⟩
  rw [mudlarklaw03_PaxParses.j2]
  have hp := parses_ok b hb hl f (by omega)
  by_cases c : Int.tmod how 3 = 1
  · have w1 : wrap64 ((x.length : Int) + 1) = ((x.length + 1 : Nat) : Int) := next_i _ (by omega)
    have w2 : wrap64 (a : Int) = (a : Int) := wrap64_id _ (by omega) (by omega)
    have hm := Nat.mod_lt a (show x.length + 1 > 0 by omega)
    have hq := parses_ok (x.take (a % (x.length + 1))) (fun y hy => hx y (List.mem_of_mem_take hy)) (by rw [List.length_take]; omega) f (by omega)
    rw [if_pos c, w1, if_neg (by omega), w2, tmod_pos, if_pos (by omega), if_pos (by omega), hp, Option.bind_some, if_pos rfl, Int.toNat_natCast, hq, Option.bind_some]
  · rw [if_neg c, hp, Option.bind_some, if_pos rfl, parses_ok x hx hxl f (by omega), Option.bind_some]
theorem j0_ok (b c : List Int) (hb : ∀ x ∈ b, (Lit.int .u8 x).wf = true) (hc : ∀ x ∈ c, (Lit.int .u8 x).wf = true) (hl : b.length ≤ 300) (hcl : c.length ≤ 140737488351232) (a : Nat) (ha : a ≤ 65535) (v how : Int) (hv : (Lit.int .u8 v).wf = true) (f : Nat) (hf : 6000 ≤ f) : mudlarklaw03_PaxParses.j0 f b c (a : Int) v how false = some true := by
  obtain ⟨f, rfl⟩ : ∃ q, f = q + 1 := ⟨f - 1, by omega⟩
  have hR := Recs_eq c hc hcl 6 (by omega) f (by omega)
  rw [show ((6 : Nat) : Int) = 6 from rfl] at hR
  obtain ⟨h1, h2⟩ := recsL_small c 6
  obtain ⟨h3, h4, _⟩ := small_lines _ h2
  have hP := RPrint_eq 28 (by omega) (recsL c 6) (fun p hp => by have := h2 p hp; have := this.2; omega) (by omega) f (by omega)
  have hv2 : printV (recsL c 6) = (bytesOf (tx (linesL (recsL c 6))), 0) := by unfold printV; rw [if_pos h4, if_neg (by omega)]
  rw [mudlarklaw03_PaxParses.j0, if_neg (by simp), hR, Option.bind_some, hP, hv2, Option.bind_some]
  simp only
  rw [bytes_len]
  generalize hs : linesL (recsL c 6) = s at h3 ⊢
  have hsl : s.length ≤ 282 := by omega
  have hw := bytes_wf s
  have hlen := bytes_len s
  obtain ⟨f, rfl⟩ : ∃ q, f = q + 1 := ⟨f - 1, by omega⟩
  have key : mudlarklaw03_PaxParses.j2 f b (a : Int) how (bytesOf (tx s)) = some true := j2_ok b hb (by omega) a ha how _ hw (by rw [bytes_len]; omega) f (by omega)
  by_cases c1 : (s.length : Int) > 0
  · rw [if_pos c1, mudlarklaw03_PaxParses.j1]
    by_cases c2 : ((Int.tmod how 3) == 0) = true
    · have w2 : wrap64 (a : Int) = (a : Int) := wrap64_id _ (by omega) (by omega)
      have hm := Nat.mod_lt a (show s.length > 0 by omega)
      rw [if_pos c2, bytes_len, if_neg (by omega), w2, tmod_pos, if_pos (by omega), if_pos (by omega), Int.toNat_natCast]
      refine j2_ok b hb (by omega) a ha how _ (fun y hy => ?_) (by rw [List.length_set, bytes_len]; omega) f (by omega)
      rcases List.mem_or_eq_of_mem_set hy with h | h
      · exact hw y h
      · rw [h]; exact hv
    · rw [if_neg c2]
      exact key
  · rw [if_neg c1, mudlarklaw03_PaxParses.j1, if_neg (by simp)]
    exact key
theorem PaxParses : mudlarklaw03_PaxParses.Pure := by
  intro b c a v how hbl hbs hb hcl hcs hc ha hv hhow
  refine ⟨6000, ?_⟩
  have ha2 : 0 ≤ a ∧ a ≤ 65535 := by simpa [Lit.wf, IntKind.min, IntKind.max, IntKind.signed, IntKind.bits] using ha
  obtain ⟨a, rfl⟩ : ∃ n : Nat, a = (n : Int) := ⟨a.toNat, by omega⟩
  unfold mudlarklaw03_PaxParses.f
  by_cases c1 : (b.length : Int) > 300
  · rw [if_pos c1, mudlarklaw03_PaxParses.j0, if_pos rfl]
    rfl
  · rw [if_neg c1, show mudlarklaw03_known.f = some true from rfl, Option.bind_some]
    exact j0_ok b c hb hc (by omega) (by omega) a (by omega) v how hv 6000 (Nat.le_refl _)
end Go.Proofs.YtcbeehchhhoeeaaDoor.Pure
