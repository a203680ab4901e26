/- Less, the chapter's own Less and Print: of every time. No conditions. -/
import Derived.Test.YtalfgbdmenccnaaDoorHStampT
import Derived.Test.YtalfgbdmenccnaaDoorPx3
import Derived.Test.YtalfgbdmenccnaaDoorPx4
namespace Go.Proofs.YtalfgbdmenccnaaDoor.P
open Go Go.RowKit Go.Shelf Go.Lib Go.Proofs.YtalfgbdmenccnaaDoorW.PrintWords Go.Proofs.YtalfgbdmenccnaaDoorW.PrintLast Go.Proofs.YtalfgbdmenccnaaDoorW.PrintMore
set_option linter.unusedVariables false
set_option linter.unusedSimpArgs false

def ltT (s n s2 n2 : Int) : Bool := decide (s < s2 ∨ (s = s2 ∧ n < n2))
def cpT (x y : Int) : Int := if x < y then -1 else if x > y then 1 else 0
theorem cmp_eq (x y : Int) : cmp_Compare_int.f x y = some (cpT x y) := by
  have h0 : ∀ z : Int, cmp_isNaN_int.f z = some false := fun z => by unfold cmp_isNaN_int.f; simp
  unfold cmp_Compare_int.f cpT
  rw [h0, h0, Option.bind_some, Option.bind_some, if_neg (by simp), if_neg (by simp)]
  split
  · rfl
  · split <;> rfl
theorem or_ev (a b : Int) : Ev (fun k => cmp_Or_int.f k ([a, b] : List Int)) (if a = 0 then b else a) := by
  have r0 : rd ([a, b] : List Int) 0 = a := rfl
  have r1 : rd ([a, b] : List Int) 1 = b := rfl
  have hl : (([a, b] : List Int).length : Int) = 2 := rfl
  have w1 : wrap64 (0 + 1) = 1 := by rw [wrap64_id _ (by omega) (by omega)]; rfl
  have w2 : wrap64 (1 + 1) = 2 := by rw [wrap64_id _ (by omega) (by omega)]; rfl
  have e2 : Ev (fun k => cmp_Or_int.l0 k 0 [a, b] 2 2) 0 :=
    Ev.step (f := fun _ => some 0) (fun k => by simp only [cmp_Or_int.l0]; rw [if_neg (by omega)]) (Ev.now _)
  have e1 : Ev (fun k => cmp_Or_int.l0 k 0 [a, b] 2 1) b := by
    by_cases h : b = 0
    · subst h
      refine Ev.step (fun k => ?_) e2
      simp only [cmp_Or_int.l0]
      rw [if_pos (by omega), if_pos (by omega), hl, if_pos (by omega), r1, if_pos rfl, w2]
    · refine Ev.step (f := fun _ => some b) (fun k => ?_) (Ev.now _)
      simp only [cmp_Or_int.l0]
      rw [if_pos (by omega), if_pos (by omega), hl, if_pos (by omega), r1, if_neg h]
  have e0 : Ev (fun k => cmp_Or_int.l0 k 0 [a, b] 2 0) (if a = 0 then b else a) := by
    by_cases h : a = 0
    · rw [if_pos h]
      refine Ev.step (fun k => ?_) e1
      simp only [cmp_Or_int.l0]
      rw [if_pos (by omega), if_pos (by omega), hl, if_pos (by omega), r0, if_pos h, w1]
    · rw [if_neg h]
      refine Ev.step (f := fun _ => some a) (fun k => ?_) (Ev.now _)
      simp only [cmp_Or_int.l0]
      rw [if_pos (by omega), if_pos (by omega), hl, if_pos (by omega), r0, if_neg h]
  exact e0
theorem Less_ev (S N S2 N2 : Int) : Ev (fun k => stamp_Less.f k S N S2 N2) (ltT (clampS S) (clampN N) (clampS S2) (clampN N2)) := by
  unfold stamp_Less.f
  rw [norm_eq, norm_eq]
  simp only [Option.bind_some]
  generalize clampS S = s
  generalize clampN N = n
  generalize clampS S2 = s2
  generalize clampN N2 = n2
  by_cases h : (s == s2 && n == n2) = true
  · simp only [if_pos h]
    rw [Bool.and_eq_true, beq_iff_eq, beq_iff_eq] at h
    have e : ltT s n s2 n2 = false := decide_eq_false (by omega)
    rw [e]
    exact Ev.now false
  · simp only [if_neg h]
    rw [cmp_eq, cmp_eq]
    simp only [Option.bind_some]
    refine Ev.bind (g := fun k => cmp_Or_int.f k ([cpT s s2, cpT n n2] : List Int)) (or_ev _ _) ?_
    have e : decide ((if cpT s s2 = 0 then cpT n n2 else cpT s s2) < 0) = ltT s n s2 n2 := by
      unfold ltT cpT
      refine decide_eq_decide.2 ?_
      repeat' split
      all_goals omega
    rw [e]
    exact Ev.now _
theorem RefLess_eq (S N S2 N2 : Int) : mudlarkref04_Less.f S N S2 N2 = some (ltT (clampS S) (clampN N) (clampS S2) (clampN N2)) := by
  show ((some (clampS S, clampN N)).bind fun bt177 => ((some (clampS S2, clampN N2)).bind fun bt179 => (if bt177.1 < bt179.1 then (some true) else (if bt177.1 = bt179.1 then (some (decide (bt177.2 < bt179.2))) else (some false))))) = _
  simp only [Option.bind_some]
  generalize clampS S = s
  generalize clampN N = n
  generalize clampS S2 = s2
  generalize clampN N2 = n2
  unfold ltT
  by_cases h1 : s < s2
  · rw [if_pos h1, decide_eq_true (.inl h1)]
  · rw [if_neg h1]
    by_cases h2 : s = s2
    · rw [if_pos h2]
      congr 1
      refine decide_eq_decide.2 ?_
      omega
    · rw [if_neg h2, decide_eq_false (by omega)]

/-! ### The chapter's own Print -/
theorem nulLoop (y f : List UInt8) (x : UInt8) (hx : x ≠ 48) (hy : y.length ≤ 100) (hf : f.length ≤ 100) :
    ∀ m, m ≤ 100 → Ev (fun k => mudlarkref04_Print.l0 k (tx y) (tx ((f ++ [x]) ++ List.replicate m 48))) (tx (y ++ 46 :: (f ++ [x])))
  | 0, _ => by
    rw [List.replicate_zero, List.append_nil]
    have hz : (((tx (f ++ [x])).size : Int) - 1) = (f.length : Int) := by rw [tx_size, List.length_append]; simp only [List.length_cons, List.length_nil]; omega
    have hsz : ((tx (f ++ [x])).size : Int) = (f.length : Int) + 1 := by omega
    have hb : bt (tx (f ++ [x])) (f.length : Int) = (x.toNat : Int) := by
      rw [bt_tx _ f.length (by rw [List.length_append]; simp)]
      simp
    have hn : ¬ ((x.toNat : Int) = 48) := fun e => hx (UInt8.toNat_inj.1 (by have : ((48 : UInt8).toNat : Int) = 48 := rfl; omega))
    have e46 : (⟨#[46]⟩ : ByteArray) = tx [46] := rfl
    have b1 : (tx y).size + 1 ≤ 9223372036854775807 := by rw [tx_size]; omega
    have b2 : (tx y ++ tx [46]).size + (tx (f ++ [x])).size ≤ 9223372036854775807 := by rw [tx_app, tx_size, tx_size, List.length_append, List.length_append]; simp only [List.length_cons, List.length_nil]; omega
    refine Ev.step (f := fun _ => some (tx (y ++ 46 :: (f ++ [x])))) (fun k => ?_) (Ev.now _)
    simp only [mudlarkref04_Print.l0]
    rw [hz, wrap64_id _ (by omega) (by omega), if_pos (by omega), hsz, if_pos (by omega), hb, if_neg hn, if_pos b1, e46, if_pos b2, tx_app, tx_app, List.append_assoc]
    rfl
  | m + 1, hm => by
    have ih := nulLoop y f x hx hy hf m (by omega)
    obtain ⟨q, hq⟩ : ∃ q, q = (f ++ [x]) ++ List.replicate m 48 := ⟨_, rfl⟩
    have hql : q.length ≤ 300 := by rw [hq, List.length_append, List.length_append, List.length_replicate]; simp only [List.length_cons, List.length_nil]; omega
    have e : (f ++ [x]) ++ List.replicate (m + 1) 48 = q ++ [48] := by rw [List.replicate_succ', ← List.append_assoc, ← hq]
    rw [e]
    rw [← hq] at ih
    have hz : (((tx (q ++ [48])).size : Int) - 1) = (q.length : Int) := by rw [tx_size, List.length_append]; simp only [List.length_cons, List.length_nil]; omega
    have hsz : ((tx (q ++ [48])).size : Int) = (q.length : Int) + 1 := by omega
    have hb : bt (tx (q ++ [48])) (q.length : Int) = 48 := by
      rw [bt_tx _ q.length (by rw [List.length_append]; simp)]
      simp
    have hc : (tx (q ++ [48])).extract 0 ((q.length : Nat) : Int).toNat = tx q := by
      rw [tx_cut, Int.toNat_natCast, List.drop_zero, List.take_left]
    refine Ev.step (fun k => ?_) ih
    simp only [mudlarkref04_Print.l0]
    rw [hz, wrap64_id _ (by omega) (by omega), if_pos (by omega), hsz, if_pos (by omega), hb, if_pos rfl, if_pos (by omega), hc]
theorem refPrint_j (x : List UInt8) (s n : Nat) (hs : s ≤ 999999999999999) (hn : n < 1000000000) (hx : x.length ≤ 1) :
    Ev (fun k => mudlarkref04_Print.j0 k (s : Int) (n : Int) (tx x)) (tx (x ++ (Lib.decDigits s ++ tailT n))) := by
  have l1 := dd_le16 s hs
  have b1 : (tx x).size + (tx (Lib.decDigits s)).size ≤ 9223372036854775807 := by rw [tx_size, tx_size]; omega
  unfold tailT
  by_cases c : n > 0
  · have l2 := dd_le10 n hn
    obtain ⟨f1, f2, f3, f4, f5⟩ := frac_ok n hn
    obtain ⟨m, hm⟩ := trim_back ((Lib.decDigits (1000000000 + n)).drop 1)
    have hm' : (Lib.decDigits (1000000000 + n)).drop 1 = fracT n ++ List.replicate m 48 := hm
    have hml : m ≤ 9 := by
      have := congrArg List.length hm'
      rw [List.length_drop, l2, List.length_append, List.length_replicate] at this
      omega
    rcases List.eq_nil_or_concat (fracT n) with he | ⟨d, z, he⟩
    · exact absurd he (f5 c)
    · have he2 : fracT n = d ++ [z] := by simpa using he
      have hz48 : z ≠ 48 := trim_last _ z d he2
      have hdl : d.length ≤ 100 := by rw [he2, List.length_append] at f2; omega
      have h := nulLoop (x ++ Lib.decDigits s) d z hz48 (by rw [List.length_append]; omega) hdl m (by omega)
      rw [← he2, ← hm'] at h
      rw [if_pos c, ← List.append_assoc]
      refine Ev.step (fun k => ?_) h
      simp only [mudlarkref04_Print.j0]
      rw [itoa_nat s (by omega), Option.bind_some, if_pos b1, if_neg (by omega), wrap64_id _ (by omega) (by omega), show (1000000000 : Int) + (n : Int) = ((1000000000 + n : Nat) : Int) by omega, itoa_nat _ (by omega), Option.bind_some,
        if_pos (by rw [tx_size]; omega), tx_cut, tx_size, List.take_of_length_le (Nat.le_refl _), tx_app]
  · refine Ev.step (f := fun _ => some (tx (x ++ (Lib.decDigits s ++ [])))) (fun k => ?_) ?_
    · simp only [mudlarkref04_Print.j0]
      rw [itoa_nat s (by omega), Option.bind_some, if_pos b1, if_pos (by omega), tx_app, List.append_nil]
    · rw [if_neg c]
      exact Ev.now _
theorem RefPrint_ev (S N : Int) : Ev (fun k => mudlarkref04_Print.f k S N) (tx (printT S N)) := by
  have hS := clampS_in S
  have hN := clampN_in N
  refine Ev.congr (f := fun k => if clampS S < 0 then (if clampN N > 0 then mudlarkref04_Print.j0 k (wrap64 ((wrap64 (-clampS S)) - 1)) (wrap64 (1000000000 - clampN N)) (⟨#[45]⟩ : ByteArray) else mudlarkref04_Print.j0 k (wrap64 (-clampS S)) (clampN N) (⟨#[45]⟩ : ByteArray)) else mudlarkref04_Print.j0 k (clampS S) (clampN N) (⟨#[]⟩ : ByteArray)) (fun k => rfl) ?_
  unfold printT bodyT partsT
  generalize clampS S = s at *
  generalize clampN N = n at *
  by_cases c1 : s < 0
  · simp only [if_pos c1]
    have w1 : wrap64 (-s) = -s := wrap64_id _ (by omega) (by omega)
    rw [w1]
    by_cases c2 : n > 0
    · simp only [if_pos c2]
      have w2 : wrap64 (-s - 1) = ((-s - 1).toNat : Int) := by rw [wrap64_id _ (by omega) (by omega)]; omega
      have w3 : wrap64 (1000000000 - n) = ((1000000000 - n).toNat : Int) := by rw [wrap64_id _ (by omega) (by omega)]; omega
      rw [w2, w3]
      exact refPrint_j [45] _ _ (by omega) (by omega) (by simp)
    · simp only [if_neg c2]
      have w2 : -s = ((-s).toNat : Int) := by omega
      have w3 : n = (n.toNat : Int) := by omega
      have h := refPrint_j [45] (-s).toNat n.toNat (by omega) (by omega) (by simp)
      rw [← w2, ← w3] at h
      exact h
  · simp only [if_neg c1]
    have w2 : s = (s.toNat : Int) := by omega
    have w3 : n = (n.toNat : Int) := by omega
    have h := refPrint_j [] s.toNat n.toNat (by omega) (by omega) (by simp)
    rw [← w2, ← w3] at h
    exact h
end Go.Proofs.YtalfgbdmenccnaaDoor.P
