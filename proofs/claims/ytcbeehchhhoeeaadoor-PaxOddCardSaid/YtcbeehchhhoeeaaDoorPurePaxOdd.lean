/- The statement PaxOdd, in lists and numbers. No conditions. -/
import Derived.Test.YtcbeehchhhoeeaaDoorHPaxV
import Derived.Test.YtcbeehchhhoeeaaDoorHPKnown
import Derived.Test.YtcbeehchhhoeeaaDoorHTabEL
import Derived.Test.YtcbeehchhhoeeaaDoorPx4
namespace Go.Proofs.YtcbeehchhhoeeaaDoor.Pure
open Go Go.RowKit Go.Lib Go.Proofs.YtcbeehchhhoeeaaDoor.P Go.Proofs.YtcbeehchhhoeeaaDoorW.PrintWords Go.Proofs.YtcbeehchhhoeeaaDoorW.PrintLast Go.Proofs.YtcbeehchhhoeeaaDoorW.PrintMore
set_option linter.unusedVariables false
set_option linter.unusedSimpArgs false

theorem dd_head (u : Nat) (h : 0 < u) : ∃ d t, decDigits u = d :: t ∧ 49 ≤ d.toNat ∧ d.toNat ≤ 57 := by
  induction u using Nat.strongRecOn with
  | _ u ih =>
    rw [decDigits]
    by_cases h10 : u < 10
    · rw [dif_pos h10]; exact ⟨_, [], rfl, by rw [dgN u h10]; omega, by rw [dgN u h10]; omega⟩
    · rw [dif_neg h10]
      obtain ⟨d, t, e, h1, h2⟩ := ih (u / 10) (by omega) (by omega)
      exact ⟨d, t ++ _, by rw [e]; rfl, h1, h2⟩
theorem line_head {k v r t : List UInt8} {d : UInt8} (h : d :: t = lineL k v ++ r) : 49 ≤ d.toNat ∧ d.toNat ≤ 57 := by
  obtain ⟨d', t', e, h1, h2⟩ := dd_head (lnN k v) (by unfold lnN; omega)
  unfold lineL at h
  rw [e, List.cons_append, List.cons_append] at h
  rw [(List.cons.inj h).1]
  exact ⟨h1, h2⟩
theorem piece_nl (q : Nat) (hq : q < 6) (c r : List UInt8) (h : piece q = c ++ 10 :: r) : q = 1 ∧ c = [] ∧ r = [] := by
  have hm : (10 : UInt8) ∈ piece q := by rw [h]; simp
  have hl := congrArg List.length h
  have : q = 0 ∨ q = 1 ∨ q = 2 ∨ q = 3 ∨ q = 4 ∨ q = 5 := by omega
  rcases this with rfl | rfl | rfl | rfl | rfl | rfl
  · exact absurd hm (by decide)
  · simp [piece] at hl
    exact ⟨rfl, List.eq_nil_of_length_eq_zero (by omega), List.eq_nil_of_length_eq_zero (by omega)⟩
  · exact absurd hm (by decide)
  · exact absurd hm (by decide)
  · exact absurd hm (by decide)
  · exact absurd hm (by decide)
theorem vG_nl (b : Nat) : ∀ (m : Nat) (a r : List UInt8), vG b m = a ++ 10 :: r → (r = [] ∧ (b + m) % 6 = 2) ∨ ∃ s, r = 61 :: s
  | 0, a, r, h => by simp [vG] at h
  | m + 1, a, r, h => by
    rw [vG] at h
    have hq := Nat.mod_lt (b + m) (show 6 > 0 by omega)
    rcases List.append_eq_append_iff.1 h with ⟨c, hc, hr⟩ | ⟨c, hc, hr⟩
    · obtain ⟨e1, _, rfl⟩ := piece_nl _ hq c r hr
      exact .inl ⟨rfl, by omega⟩
    · cases c with
      | nil =>
        rw [List.nil_append] at hr
        obtain ⟨e1, _, rfl⟩ := piece_nl _ hq [] r hr.symm
        exact .inl ⟨rfl, by omega⟩
      | cons x c =>
        rw [List.cons_append] at hr
        obtain ⟨e1, e2⟩ := List.cons.inj hr
        subst e1 e2
        rcases vG_nl b m a c hc with ⟨rfl, e⟩ | ⟨s, rfl⟩
        · rw [e]; exact .inr ⟨[], rfl⟩
        · exact .inr ⟨s ++ _, rfl⟩
theorem odd_take (k v : List UInt8) (hok : okR k v = true) (hl : k.length + v.length ≤ 100000) : (firstL ((lineL k v).take ((lineL k v).length - 1))).2.2.2 = false := by
  obtain ⟨X, hX⟩ : ∃ X, X = decDigits (lnN k v) ++ 32 :: (k ++ 61 :: v) := ⟨_, rfl⟩
  have e : lineL k v = X ++ [10] := by rw [hX]; unfold lineL restL; simp
  have hlen := lineL_len k v (by omega)
  have hbd := lnN_le k v (by omega)
  have ht : (lineL k v).take ((lineL k v).length - 1) = X := by rw [e, List.length_append, List.length_singleton, Nat.add_sub_cancel, List.take_left]
  rw [ht]
  refine no_first _ (fun k' v' r hok' h => ?_)
  have h2 : lineL k v ++ [] = lineL k' v' ++ (r ++ [10]) := by rw [List.append_nil, e, h, List.append_assoc]
  have hl' := congrArg List.length h2
  rw [List.length_append, List.length_append, hlen, List.length_nil] at hl'
  have hk' : k'.length + v'.length ≤ (lineL k' v').length := by unfold lineL; rw [List.length_append, restL_len]; omega
  have := (line_one (okR_key hok) (okR_key hok') (by omega) (by omega) h2).2.2
  simp at this
theorem Parse_text (s : List UInt8) (hs : s.length ≤ 1048576) (hne : s ≠ []) (hb : (firstL s).2.2.2 = false) : pax_Parse.f (bytesOf (tx s)) = some ([], 34) :=
  Parse_bad [] s rfl hs hne hb
theorem odd_digit (b m : Nat) (k : List UInt8) (hm : m ≤ 12) (hk : k.length ≤ 4) (hok : okR k (vG b m) = true) (d : UInt8) (t : List UInt8) (hd : lineL k (vG b m) = d :: t) (d' : UInt8) (h1 : 49 ≤ d'.toNat) (h2 : d'.toNat ≤ 57) (hne : d' ≠ d) :
    pax_Parse.f (bytesOf (tx (d' :: t))) = some ([], 34) := by
  have hv := vG_len b m
  have hlen := lineL_len k (vG b m) (by omega)
  have hbd := lnN_le k (vG b m) (by omega)
  have htl := congrArg List.length hd
  rw [hlen, List.length_cons] at htl
  cases hb : (firstL (d' :: t)).2.2.2 with
  | false => exact Parse_text _ (by rw [List.length_cons]; omega) (by simp) hb
  | true =>
    obtain ⟨ho, he⟩ := first_ok _ hb
    generalize (firstL (d' :: t)).1 = k' at ho he
    generalize (firstL (d' :: t)).2.1 = v' at ho he
    generalize (firstL (d' :: t)).2.2.1 = r at ho he
    obtain ⟨e0, ds, hds, g1, g2⟩ := dd_head (lnN k (vG b m)) (by unfold lnN; omega)
    have hdd := dd_dig (lnN k (vG b m))
    have hd0 : lineL k (vG b m) = decDigits (lnN k (vG b m)) ++ 32 :: (k ++ 61 :: (vG b m ++ [10])) := by unfold lineL restL; simp
    rw [hds] at hdd
    rw [hd, hds, List.cons_append] at hd0
    obtain ⟨q1, q2⟩ := List.cons.inj hd0
    subst q1 q2
    have hp := line_parts he
    have hp2 : (d' :: ds) ++ 32 :: (k ++ 61 :: (vG b m ++ [10])) = decDigits (lnN k' v') ++ 32 :: (k' ++ 61 :: (v' ++ 10 :: r)) := by rw [← hp]; rfl
    have hall : ∀ x ∈ d' :: ds, dgb x = true := fun x hx => by
      rcases List.mem_cons.1 hx with rfl | hx
      · exact (dgb_iff _).2 ⟨by omega, h2⟩
      · exact hdd x (by simp [hx])
    obtain ⟨x1, x2⟩ := app_inj 32 _ _ _ _ hp2 (dig_no32 _ hall) (dig_no32 _ (dd_dig _))
    obtain ⟨x3, x4⟩ := app_inj 61 _ _ _ _ x2 (ok_no61 k (okR_key hok)) (ok_no61 k' (okR_key ho))
    subst x3
    have same : v' ≠ vG b m := fun e => by
      rw [e, hds] at x1
      exact hne (List.cons.inj x1).1
    have hr : r ≠ [] ∧ (firstL r).2.2.2 = false := by
      have nodig : ∀ (x : UInt8) (s : List UInt8), (x = 10 ∨ x = 61) → (firstL (x :: s)).2.2.2 = false := fun x s hx => no_first _ (fun k2 v2 r2 _ h => by
        have := line_head h
        rcases hx with rfl | rfl
        · exact absurd this.1 (by decide)
        · exact absurd this.2 (by decide))
      rcases List.append_eq_append_iff.1 x4 with ⟨c, hc, hr⟩ | ⟨c, hc, hr⟩
      · cases c with
        | nil => rw [List.append_nil] at hc; exact (same hc).elim
        | cons y c => have := congrArg List.length hr; simp at this
      · cases c with
        | nil => rw [List.append_nil] at hc; exact (same hc.symm).elim
        | cons y c =>
          rw [List.cons_append] at hr
          obtain ⟨w1, w2⟩ := List.cons.inj hr
          subst w1 w2
          rcases vG_nl b m v' c hc with ⟨rfl, _⟩ | ⟨s, rfl⟩
          · exact ⟨by simp, nodig _ _ (.inl rfl)⟩
          · exact ⟨by simp, nodig _ _ (.inr rfl)⟩
    have hP := Parse_bad [⟨tx k, tx v'⟩] r (by rw [List.all_cons, List.all_nil, Bool.and_true]; exact ho) (by rw [lines_one]; show (lineL k v' ++ r).length ≤ _; rw [← he, List.length_cons]; omega) hr.1 hr.2
    rw [lines_one] at hP
    rw [he]
    exact hP
theorem odd_num (d a : Nat) (h1 : 49 ≤ d) (h2 : d ≤ 57) : ∃ e : Nat, (49 + ((((((d : Int) - 49) + 1) + (Int.tmod (a : Int) 8)) % 256) % 9)) = (e : Int) ∧ 49 ≤ e ∧ e ≤ 57 ∧ e ≠ d := by
  rw [show ((8 : Int)) = ((8 : Nat) : Int) from rfl, tmod_nat]
  have := Nat.mod_lt a (show 8 > 0 by omega)
  generalize a % 8 = z at this ⊢
  refine ⟨49 + (d - 49 + 1 + z) % 9, by omega, by omega, by omega, by omega⟩
theorem PaxOdd : mudlarklaw03_PaxOdd.Pure := by
  intro c a hl hs hb ha
  refine ⟨25, ?_⟩
  have hR := Recs_eq c hb (by omega) 1 (by omega) 25 (by omega)
  rw [show ((1 : Nat) : Int) = 1 from rfl] at hR
  obtain ⟨h1, h2⟩ := recsL_small c 1
  obtain ⟨_, h3⟩ := recsG_of c 1 1 0
  have hP := Print_small _ h2 (by omega)
  unfold mudlarklaw03_PaxOdd.f
  rw [hR, Option.bind_some, hP, Option.bind_some]
  simp only [bytes_len]
  have h3' : ∀ p ∈ recsL c 1, ∃ j, p = recC c j := h3
  clear hR hP h3
  rcases hq : recsL c 1 with _ | ⟨p, r⟩
  · rw [lines_nil, if_pos (by rfl)]
    rfl
  · rw [hq] at h1 h2 h3'
    obtain rfl : r = [] := List.eq_nil_of_length_eq_zero (by rw [List.length_cons] at h1; omega)
    obtain ⟨j, rfl⟩ := h3' p (by simp)
    obtain ⟨ho, hk, hv⟩ := h2 (recC c j) (by simp)
    rw [lines_one]
    have hkv : ∃ k b m, m ≤ 12 ∧ k.length ≤ 4 ∧ okR k (vG b m) = true ∧ recL (recC c j) = lineL k (vG b m) :=
      ⟨keyC (natAt c j % 5), natAt c (j + 1), natAt c (j + 1) % 13, by have := Nat.mod_lt (natAt c (j + 1)) (show 13 > 0 by omega); omega, (keyC_ok _).2.2, ho, rfl⟩
    obtain ⟨k, b, m, hm, hk4, hok, e⟩ := hkv
    rw [e]
    have hvl := vG_len b m
    have hlen := lineL_len k (vG b m) (by omega)
    have hbd := lnN_le k (vG b m) (by omega)
    have hot := odd_take k (vG b m) hok (by omega)
    obtain ⟨d, t, hd⟩ : ∃ d t, lineL k (vG b m) = d :: t := by
      cases hz : lineL k (vG b m) with
      | nil => rw [hz] at hlen; simp at hlen; omega
      | cons d t => exact ⟨d, t, rfl⟩
    have hdh := line_head (k := k) (v := vG b m) (r := []) (d := d) (t := t) (by rw [List.append_nil, hd])
    have w1 : wrap64 (((lineL k (vG b m)).length : Int) - 1) = ((lineL k (vG b m)).length : Int) - 1 := wrap64_id _ (by omega) (by omega)
    rw [w1, if_neg (by omega), if_pos (by omega), if_pos (by omega), show (((lineL k (vG b m)).length : Int) - 1).toNat = (lineL k (vG b m)).length - 1 by omega]
    have ht : (bytesOf (tx (lineL k (vG b m)))).take ((lineL k (vG b m)).length - 1) = bytesOf (tx ((lineL k (vG b m)).take ((lineL k (vG b m)).length - 1))) := by
      rw [bytes_of, bytes_of, List.map_take]
    rw [ht, Parse_text _ (by rw [List.length_take]; omega) (fun e0 => by have := congrArg List.length e0; rw [List.length_take] at this; simp at this; omega) hot, Option.bind_some, if_pos (by omega)]
    rw [hd]
    have ha2 : 0 ≤ a ∧ a ≤ 255 := by simpa [Lit.wf, IntKind.min, IntKind.max, IntKind.signed, IntKind.bits] using ha
    obtain ⟨a, rfl⟩ : ∃ n : Nat, a = (n : Int) := ⟨a.toNat, by omega⟩
    obtain ⟨e1, he1, he2, he3, he4⟩ := odd_num d.toNat a hdh.1 hdh.2
    have hrd : rd (bytesOf (tx (d :: t))) 0 = (d.toNat : Int) := rfl
    have hset : (bytesOf (tx (d :: t))).set (0 : Int).toNat (e1 : Int) = bytesOf (tx (UInt8.ofNat e1 :: t)) := by
      rw [bytes_of, bytes_of, List.map_cons, List.map_cons]
      show (e1 : Int) :: _ = _
      rw [UInt8.toNat_ofNat', show e1 % 2 ^ 8 = e1 by omega]
    rw [hrd, he1, hset, odd_digit b m k hm hk4 hok d t hd (UInt8.ofNat e1) (by rw [UInt8.toNat_ofNat']; omega) (by rw [UInt8.toNat_ofNat']; omega) (fun e0 => he4 (by have := congrArg UInt8.toNat e0; rw [UInt8.toNat_ofNat'] at this; omega)), Option.bind_some]
    rfl
end Go.Proofs.YtcbeehchhhoeeaaDoor.Pure
