/- The pure statement of StampTexts: what is printed ends with no nought behind a point, and has no more than nine digits there. No conditions. -/
import Derived.Test.YtalfgbdmenccnaaDoorHStampT
import Derived.Test.YtalfgbdmenccnaaDoorPx7
namespace Go.Proofs.YtalfgbdmenccnaaDoor.Pure
open Go Go.RowKit Go.Proofs.YtalfgbdmenccnaaDoor.P Go.Proofs.YtalfgbdmenccnaaDoorW.PrintWords Go.Proofs.YtalfgbdmenccnaaDoorW.PrintLast Go.Proofs.YtalfgbdmenccnaaDoorW.PrintMore

theorem bt_last (q : List UInt8) (x : UInt8) : bt (tx (q ++ [x])) (q.length : Int) = (x.toNat : Int) := by
  rw [bt_tx _ q.length (by rw [List.length_append]; simp)]
  simp
theorem bt_mid (q : List UInt8) (x : UInt8) (r : List UInt8) : bt (tx (q ++ x :: r)) (q.length : Int) = (x.toNat : Int) := by
  rw [bt_tx _ q.length (by rw [List.length_append, List.length_cons]; omega)]
  simp
theorem textLoop (n : Int) (p r : List UInt8) (hp : NoDot p) (hl : (p ++ r).length ≤ 1000) (v : Bool) (hv : Ev (fun k => mudlarklaw04_StampTexts.l0 k n (tx (p ++ r)) (p.length : Int)) v) :
    ∀ (d i : Nat), i + d = p.length → Ev (fun k => mudlarklaw04_StampTexts.l0 k n (tx (p ++ r)) (i : Int)) v
  | 0, i, hd => by
    obtain rfl : i = p.length := by omega
    exact hv
  | d + 1, i, hd => by
    have ih := textLoop n p r hp hl v hv d (i + 1) (by omega)
    refine Ev.step (fun k => ?_) ih
    simp only [mudlarklaw04_StampTexts.l0]
    rw [List.length_append] at hl
    have hi : i < (p ++ r).length := by rw [List.length_append]; omega
    have hpi : (p ++ r)[i] ≠ 46 := by
      rw [List.getElem_append_left (by omega)]
      exact hp _ (List.getElem_mem _)
    have hpn : ¬ (((p ++ r)[i]).toNat : Int) = 46 := fun e => hpi (UInt8.toNat_inj.1 (by have : ((46 : UInt8).toNat : Int) = 46 := rfl; omega))
    rw [if_pos (by rw [tx_size]; omega), if_pos (by omega), bt_tx _ i hi, if_neg hpn, next_i i (by omega)]
theorem StampTexts : mudlarklaw04_StampTexts.Pure := by
  intro a0 a1 w0 w1
  refine Ev.rounds (g := fun k => mudlarklaw04_StampTexts.f k a0 a1) ?_
  have h0 : -32768 ≤ a0 ∧ a0 ≤ 32767 := by simpa [Lit.wf, IntKind.min, IntKind.max, IntKind.bits, IntKind.signed] using w0
  have h1 : 0 ≤ a1 ∧ a1 ≤ 4294967295 := by simpa [Lit.wf, IntKind.min, IntKind.max, IntKind.bits, IntKind.signed] using w1
  obtain ⟨n, hn⟩ : ∃ n, n = Int.tmod a1 1000000000 := ⟨_, rfl⟩
  have n0 : 0 ≤ n := by rw [hn]; exact Int.tmod_nonneg _ h1.1
  have n1 : n < 1000000000 := by rw [hn]; exact Int.tmod_lt_of_pos _ (by omega)
  unfold mudlarklaw04_StampTexts.f
  rw [← hn, wrap64_id a0 (by omega) (by omega), wrap64_id n (by omega) (by omega)]
  refine Ev.bind (g := fun k => stamp_Print.f k a0 n) (Print_ev a0 n) ?_
  have hcS := clampS_id a0 (by omega)
  have hcN := clampN_id n (by omega)
  have hpi := partsT_in a0 n (by omega) (by omega)
  have hpos : 0 < (partsT a0 n).2.2 ↔ 0 < n := by
    unfold partsT
    repeat' split
    all_goals simp only
    all_goals omega
  unfold printT
  rw [hcS, hcN]
  generalize partsT a0 n = P at hpi hpos
  obtain ⟨g, s, m⟩ := P
  simp only at hpi hpos
  have hbl := body_len (g, s, m) hpi.1 hpi.2
  obtain ⟨p, hp⟩ : ∃ p, p = (if g = true then [45] else []) ++ Lib.decDigits s := ⟨_, rfl⟩
  have hpd : NoDot p := by
    rw [hp]
    intro c hc
    rcases List.mem_append.1 hc with hc | hc
    · cases g with
      | true => simp only [if_true, List.mem_singleton] at hc; subst hc; decide
      | false => simp at hc
    · exact dig_nodot _ (dd_all s) c hc
  have hb : bodyT (g, s, m) = p ++ tailT m := by
    rw [hp]
    unfold bodyT
    simp only
    rw [List.append_assoc]
  rw [hb] at hbl ⊢
  refine textLoop a1 p (tailT m) hpd (by omega) true ?_ p.length 0 (by omega)
  by_cases c : m > 0
  · obtain ⟨f1, f2, f3, f4, f5⟩ := frac_ok m hpi.2
    have ht : tailT m = 46 :: fracT m := by unfold tailT; rw [if_pos c]
    rcases List.eq_nil_or_concat (fracT m) with he | ⟨d, x, he⟩
    · exact absurd he (f5 c)
    · have he2 : fracT m = d ++ [x] := by simpa using he
      have hx48 : x ≠ 48 := trim_last _ x d he2
      rw [he2] at f1 f2
      have hxd : isDig x = true := List.all_eq_true.1 f1 x (by simp)
      have hxr := (isDig_iff x).1 hxd
      have hxn : ¬ ((x.toNat : Int) = 48) := fun e => hx48 (UInt8.toNat_inj.1 (by have : ((48 : UInt8).toNat : Int) = 48 := rfl; omega))
      have hq : p ++ tailT m = (p ++ 46 :: d) ++ [x] := by rw [ht, he2]; simp
      have hz : (p ++ tailT m).length = p.length + d.length + 2 := by rw [hq]; simp only [List.length_append, List.length_cons, List.length_nil]; omega
      have hb1 : bt (tx (p ++ tailT m)) (p.length : Int) = 46 := by rw [ht, bt_mid]; rfl
      have hb2 : bt (tx (p ++ tailT m)) (((p ++ tailT m).length : Int) - 1) = (x.toNat : Int) := by
        rw [show (((p ++ tailT m).length : Int) - 1) = (((p ++ 46 :: d).length : Nat) : Int) by rw [hz, List.length_append, List.length_cons]; omega, hq, bt_last]
      have hdl : d.length + 1 ≤ 9 := by simpa using f2
      refine Ev.step (f := fun k => (mudlarklaw04_known.f k).bind fun t => if t = true then some true else some false) (fun k => ?_) (Ev.bind known_all (Ev.now true))
      simp only [mudlarklaw04_StampTexts.l0]
      rw [if_pos (by rw [tx_size]; omega), if_pos (by omega), hb1, if_pos rfl, tx_size, wrap64_id _ (by omega) (by omega), wrap64_id _ (by omega) (by omega), if_pos (by omega), if_pos (by omega), hb2, if_neg hxn, if_neg (by omega), if_pos (by omega), ← hn]
      have hne : (n != 0) = true := by rw [bne_iff_ne]; omega
      rw [hne]
  · have ht : tailT m = [] := by unfold tailT; rw [if_neg c]
    rw [ht, List.append_nil]
    have hz : n = 0 := by omega
    refine Ev.step (f := fun k => (mudlarklaw04_known.f k).bind fun t => if t = true then some true else some false) (fun k => ?_) (Ev.bind known_all (Ev.now true))
    simp only [mudlarklaw04_StampTexts.l0]
    rw [if_neg (by rw [tx_size]; omega), ← hn, hz]
    rfl
end Go.Proofs.YtalfgbdmenccnaaDoor.Pure
