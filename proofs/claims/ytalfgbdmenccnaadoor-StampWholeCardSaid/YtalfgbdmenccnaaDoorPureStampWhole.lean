/- The pure statement of StampWhole: of a whole number the seconds are it; with noughts behind the point it is the same. No conditions. -/
import Derived.Test.YtalfgbdmenccnaaDoorHStampT
import Derived.Test.YtalfgbdmenccnaaDoorPx7
namespace Go.Proofs.YtalfgbdmenccnaaDoor.Pure
open Go Go.RowKit Go.Shelf Go.Lib Go.Proofs.YtalfgbdmenccnaaDoor.P Go.Proofs.YtalfgbdmenccnaaDoorW.PrintWords Go.Proofs.YtalfgbdmenccnaaDoorW.PrintLast Go.Proofs.YtalfgbdmenccnaaDoorW.PrintMore

theorem one_dig (u : Nat) (h : u < 10) : strOfNums ([(48 + ((u : Int) % 256)) % 256] : List Int) = tx [UInt8.ofNat (48 + u)] := by
  have e : ((48 + ((u : Int) % 256)) % 256).toNat = 48 + u := by omega
  unfold strOfNums
  rw [List.map_cons, List.map_nil, e]
  rfl
theorem digits_ev : ∀ (d u : Nat), u < 10 ^ (d + 1) → u ≤ 4294967295 → Ev (fun k => mudlarklaw04_digits.f k (u : Int)) (tx (Lib.decDigits u))
  | d, u, h, hb => by
    by_cases h1 : u < 10
    · refine Ev.step (f := fun _ => some (tx (Lib.decDigits u))) (fun k => ?_) (Ev.now _)
      simp only [mudlarklaw04_digits.f]
      rw [if_pos (by omega), one_dig u h1, Lib.decDigits, dif_pos h1]
    · cases d with
      | zero => exact absurd (by simpa using h) h1
      | succ d =>
        have ih := digits_ev d (u / 10) (by rw [Nat.pow_succ] at h; omega) (by omega)
        have hl := dd_le 9 (u / 10) (by omega)
        refine Ev.step (f := fun k => (mudlarklaw04_digits.f k ((u / 10 : Nat) : Int)).bind fun t251 => ((some (([(48 + ((Int.tmod (u : Int) 10) % 256)) % 256] : List Int) : List Int)).bind fun y252 => (if t251.size + (strOfNums y252).size ≤ 9223372036854775807 then (some (t251 ++ (strOfNums y252))) else (none)))) (fun k => ?_) ?_
        · simp only [mudlarklaw04_digits.f]
          have e : wrap64 (Int.tdiv (u : Int) 10) = ((u / 10 : Nat) : Int) := by
            rw [Int.tdiv_eq_ediv_of_nonneg (by omega), wrap64_id _ (by omega) (by omega)]
            omega
          rw [if_neg (by omega), e]
        · refine Ev.bind ih ?_
          have e : Int.tmod (u : Int) 10 = ((u % 10 : Nat) : Int) := by
            rw [Int.tmod_eq_emod_of_nonneg (by omega)]
            omega
          rw [e]
          simp only [Option.bind_some]
          rw [one_dig (u % 10) (by omega), if_pos (by rw [tx_size, tx_size]; simp only [List.length_cons, List.length_nil]; omega), tx_app]
          have e2 : Lib.decDigits u = Lib.decDigits (u / 10) ++ [UInt8.ofNat (48 + u % 10)] := by rw [Lib.decDigits, dif_neg h1]
          rw [← e2]
          exact Ev.now _
def sgn (g : Bool) : List UInt8 := if g = true then [45] else []
def valS (g : Bool) (u : Nat) : Int := if g = true then -(u : Int) else (u : Int)
theorem fin_nul (g : Bool) (u : Nat) : fin g u 0 = (valS g u, 0, true) := by
  unfold fin valS
  cases g <;> simp
theorem p_one (g : Bool) (u : Nat) (hu : u ≤ 4294967295) : parseT (sgn g ++ Lib.decDigits u) = (valS g u, 0, true) := by
  have h := back_body (g, u, 0) (by simp only; omega) (by simp only; omega)
  rw [fin_nul] at h
  rw [← h]
  congr 1
  unfold bodyT tailT sgn
  simp
theorem p_two (g : Bool) (u m : Nat) (hu : u ≤ 4294967295) (h1 : 1 ≤ m) (hm : m ≤ 18) : parseT (sgn g ++ (Lib.decDigits u ++ 46 :: List.replicate m 48)) = (valS g u, 0, true) := by
  have hd := dd_all u
  have hl := dd_le 9 u (by omega)
  unfold parseT sgn
  rw [unsig_sign g _ _ hd (dd_ne u)]
  simp only
  rw [cut_at _ _ (dig_nodot _ hd)]
  simp only
  rw [if_pos ⟨(dsB_iff _ _).2 ⟨hd, dd_ne u, by omega⟩, fun _ => (dsB_iff _ _).2 ⟨nul_dig m, fun e => by have := congrArg List.length e; simp at this; omega, by rw [List.length_replicate]; exact hm⟩⟩, dd_val]
  have hn : nines (List.replicate m 48) = List.replicate 9 48 := by
    unfold nines
    rw [List.replicate_append_replicate, List.take_replicate, show min 9 (m + 9) = 9 by omega]
  rw [hn, dv_nul, Nat.zero_mul, fin_nul]
theorem p_three (g : Bool) (u : Nat) : parseT (sgn g ++ (Lib.decDigits u ++ [46])) = (0, 0, false) := by
  have hd := dd_all u
  unfold parseT sgn
  rw [unsig_sign g _ _ hd (dd_ne u)]
  simp only
  rw [cut_at _ [] (dig_nodot _ hd)]
  simp only
  rw [if_neg (fun hh => by have := hh.2 trivial; revert this; decide)]
theorem wholeLoop (a2 : Int) (s : List UInt8) (u : Nat) (g : Bool) (hu : u ≤ 4294967295) (hs : s = sgn g ++ Lib.decDigits u) (h2 : 0 ≤ a2 ∧ a2 ≤ 255) :
    ∀ (d i : Nat), i + d = (Int.tmod a2 18).toNat + 1 → Ev (fun k => mudlarklaw04_StampWhole.l0 k a2 (tx s) (valS g u) (tx (List.replicate i 48)) (i : Int)) true := by
  have m0 : 0 ≤ Int.tmod a2 18 := Int.tmod_nonneg _ h2.1
  have m1 : Int.tmod a2 18 < 18 := Int.tmod_lt_of_pos _ (by omega)
  have hl := dd_le 9 u (by omega)
  have hsl : s.length ≤ 11 := by
    rw [hs, List.length_append]
    unfold sgn
    cases g
    · simp only [Bool.false_eq_true, if_false, List.length_nil]; omega
    · simp only [if_true, List.length_cons, List.length_nil]; omega
  intro d
  induction d with
  | zero =>
    intro i hd
    have e46 : (⟨#[46]⟩ : ByteArray) = tx [46] := rfl
    have q1 := p_one g u hu
    have q2 := p_two g u i hu (by omega) (by omega)
    have q3 := p_three g u
    rw [← List.append_assoc, ← hs] at q2 q3
    rw [← hs] at q1
    refine Ev.step (f := fun k => (stamp_Parse.f k (tx s)).bind fun bt256 => ((stamp_Parse.f k (tx (s ++ 46 :: List.replicate i 48))).bind fun bt260 => ((stamp_Parse.f k (tx (s ++ [46]))).bind fun bt264 => ((mudlarklaw04_known.f k).bind fun t268 => (if t268 = true then (if bt256.2.2 = true then (if bt260.2.2 = true then (if bt264.2.2 = true then (some false) else (if (bt256.1 == (valS g u) && (bt256.2.1 == 0)) = true then (some (bt260.1 == bt256.1 && (bt260.2.1 == bt256.2.1))) else (some false))) else (some false)) else (some false)) else (some false)))))) (fun k => ?_) ?_
    · simp only [mudlarklaw04_StampWhole.l0]
      have b1 : (tx s).size + 1 ≤ 9223372036854775807 := by rw [tx_size]; omega
      have b2 : (tx s ++ tx [46]).size + (tx (List.replicate i (48 : UInt8))).size ≤ 9223372036854775807 := by rw [tx_app, tx_size, tx_size, List.length_append, List.length_replicate]; simp only [List.length_cons, List.length_nil]; omega
      rw [if_neg (by rw [wrap64_id _ (by omega) (by omega)]; omega), e46]
      refine congrArg (Option.bind _) (funext fun bt256 => ?_)
      rw [if_pos b1, if_pos b2, tx_app, tx_app, List.append_assoc, List.singleton_append]
    · refine Ev.bind (g := fun k => stamp_Parse.f k (tx s)) (Parse_ev s (by omega)) ?_
      refine Ev.bind (g := fun k => stamp_Parse.f k (tx (s ++ 46 :: List.replicate i 48))) (Parse_ev _ (by rw [List.length_append, List.length_cons, List.length_replicate]; omega)) ?_
      refine Ev.bind (g := fun k => stamp_Parse.f k (tx (s ++ [46]))) (Parse_ev _ (by rw [List.length_append]; simp only [List.length_cons, List.length_nil]; omega)) ?_
      refine Ev.bind known_all ?_
      rw [q1, q2, q3]
      simp only [if_true, Bool.false_eq_true, if_false, beq_self_eq_true, Bool.and_self]
      exact Ev.now true
  | succ d ih =>
    intro i hd
    refine Ev.step (fun k => ?_) (ih (i + 1) (by omega))
    simp only [mudlarklaw04_StampWhole.l0]
    have e48 : (⟨#[48]⟩ : ByteArray) = tx [48] := rfl
    rw [if_pos (by rw [wrap64_id _ (by omega) (by omega)]; omega), if_pos (by rw [tx_size, List.length_replicate]; omega), e48, tx_app, next_i i (by omega), List.replicate_succ']
theorem StampWhole : mudlarklaw04_StampWhole.Pure := by
  intro a0 a1 a2 w0 w2
  refine Ev.rounds (g := fun k => mudlarklaw04_StampWhole.f k a0 a1 a2) ?_
  have h0 : 0 ≤ a0 ∧ a0 ≤ 4294967295 := by simpa [Lit.wf, IntKind.min, IntKind.max, IntKind.bits, IntKind.signed] using w0
  have h2 : 0 ≤ a2 ∧ a2 ≤ 255 := by simpa [Lit.wf, IntKind.min, IntKind.max, IntKind.bits, IntKind.signed] using w2
  obtain ⟨u, rfl⟩ : ∃ u : Nat, a0 = (u : Int) := ⟨a0.toNat, by omega⟩
  have hu : u ≤ 4294967295 := by omega
  have hl := dd_le 9 u (by omega)
  unfold mudlarklaw04_StampWhole.f
  rw [wrap64_id (u : Int) (by omega) (by omega)]
  refine Ev.bind (g := fun k => mudlarklaw04_digits.f k (u : Int)) (digits_ev 9 u (by omega) hu) ?_
  have go : ∀ g : Bool, Ev (fun k => mudlarklaw04_StampWhole.j0 k a2 (tx (sgn g ++ Lib.decDigits u)) (valS g u)) true := fun g =>
    Ev.step (fun k => by simp only [mudlarklaw04_StampWhole.j0]; rfl) (wholeLoop a2 _ u g hu rfl h2 ((Int.tmod a2 18).toNat + 1) 0 (by omega))
  cases a1 with
  | true =>
    have g1 := go true
    have e45 : (⟨#[45]⟩ : ByteArray) = tx [45] := rfl
    refine Ev.congr (fun k => ?_) g1
    have b1 : 1 + (tx (Lib.decDigits u)).size ≤ 9223372036854775807 := by rw [tx_size]; omega
    rw [if_pos rfl, if_pos b1, e45, tx_app, wrap64_id _ (by omega) (by omega)]
    rfl
  | false =>
    have g1 := go false
    simp only [Bool.false_eq_true, if_false]
    exact g1
end Go.Proofs.YtalfgbdmenccnaaDoor.Pure
