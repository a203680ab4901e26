/- What the reference's one and Parse answer: the same as pax.first and pax.Parse. No conditions. -/
import Derived.Test.YtcbeehchhhoeeaaDoorHPaxQ
import Derived.Test.YtcbeehchhhoeeaaDoorPx9
namespace Go.Proofs.YtcbeehchhhoeeaaDoor.P
open Go Go.RowKit Go.Lib Go.Proofs Go.Proofs.YtcbeehchhhoeeaaDoorW.PrintWords Go.Proofs.YtcbeehchhhoeeaaDoorW.PrintLast Go.Proofs.YtcbeehchhhoeeaaDoorW.PrintMore
set_option linter.unusedVariables false
set_option linter.unusedSimpArgs false

def dgs : Nat → List UInt8 → List UInt8
  | 0, _ => []
  | _, [] => []
  | m + 1, b :: r => if dgb b = true then b :: dgs m r else []
theorem dgs_cons (m : Nat) (b : UInt8) (r : List UInt8) : dgs (m + 1) (b :: r) = if dgb b = true then b :: dgs m r else [] := by rw [dgs]
theorem dgs_dig : ∀ (m : Nat) (l : List UInt8), (∀ b ∈ dgs m l, dgb b = true) ∧ (dgs m l).length ≤ m ∧ (dgs m l).length ≤ l.length
  | 0, l => by simp [dgs]
  | m + 1, [] => by simp [dgs]
  | m + 1, b :: r => by
    obtain ⟨h1, h2, h3⟩ := dgs_dig m r
    unfold dgs
    split
    · rename_i h
      refine ⟨fun x hx => ?_, by rw [List.length_cons]; omega, by rw [List.length_cons, List.length_cons]; omega⟩
      rcases List.mem_cons.1 hx with rfl | hx
      · exact h
      · exact h1 x hx
    · simp
theorem dgs_of : ∀ (d : List UInt8) (m : Nat) (b : UInt8) (t : List UInt8), (∀ x ∈ d, dgb x = true) → dgb b = false → d.length ≤ m → dgs m (d ++ b :: t) = d
  | [], 0, b, t, _, _, _ => rfl
  | [], m + 1, b, t, _, hb, _ => by
    show dgs (m + 1) (b :: t) = []
    unfold dgs
    rw [if_neg (by rw [hb]; simp)]
  | x :: d, 0, b, t, _, _, h => by simp at h
  | x :: d, m + 1, b, t, hd, hb, h => by
    show dgs (m + 1) (x :: (d ++ b :: t)) = x :: d
    unfold dgs
    rw [if_pos (hd x (by simp)), dgs_of d m b t (fun y hy => hd y (by simp [hy])) hb (by rw [List.length_cons] at h; omega)]
theorem dv_le : ∀ (l : List UInt8) (acc : Nat), (∀ b ∈ l, dgb b = true) → dv acc l < (acc + 1) * 10 ^ l.length
  | [], acc, _ => by unfold dv; simp
  | b :: r, acc, h => by
    have hb := (dgb_iff b).1 (h b (by simp))
    have h1 := dv_le r (acc * 10 + (b.toNat - 48)) (fun x hx => h x (by simp [hx]))
    have e : dv acc (b :: r) = dv (acc * 10 + (b.toNat - 48)) r := by unfold dv; rw [List.foldl_cons]
    rw [e, List.length_cons, Nat.pow_succ]
    have h2 : (acc * 10 + (b.toNat - 48) + 1) * 10 ^ r.length ≤ ((acc + 1) * 10) * 10 ^ r.length := Nat.mul_le_mul_right _ (by omega)
    have h3 : ((acc + 1) * 10) * 10 ^ r.length = (acc + 1) * (10 ^ r.length * 10) := by rw [Nat.mul_assoc, Nat.mul_comm 10]
    omega
theorem rd_bytes (s : List UInt8) (i : Nat) (h : i < s.length) : rd (bytesOf (tx s)) (i : Int) = ((s[i]).toNat : Int) := by
  unfold rd
  rw [bytes_of, Int.toNat_natCast, List.getD_eq_getElem?_getD, List.getElem?_map, List.getElem?_eq_getElem h]
  rfl
theorem one_l0 (s : List UInt8) (hs : s.length ≤ 1048576) : ∀ (m i acc F : Nat), i + m = 8 → i ≤ s.length → acc < 10 ^ i →
    mudlarkref03_one.l0 (F + (dgs m (s.drop i)).length + 1) (bytesOf (tx s)) (acc : Int) (i : Int) = mudlarkref03_one.j1 F (bytesOf (tx s)) ((dv acc (dgs m (s.drop i)) : Nat) : Int) ((i + (dgs m (s.drop i)).length : Nat) : Int)
  | m, i, acc, F, h1, h2, h3 => by
    have h8 : 10 ^ i ≤ 10 ^ 8 := Nat.pow_le_pow_right (by omega) (by omega)
    have h8' : (10 : Nat) ^ 8 = 100000000 := by decide
    rw [mudlarkref03_one.l0, bytes_len]
    rcases Nat.lt_or_ge i s.length with hi | hi
    · rw [if_pos (by omega)]
      cases m with
      | zero =>
        have hz : dgs 0 (s.drop i) = [] := by cases s.drop i <;> rfl
        rw [if_neg (by omega), hz]
        rfl
      | succ m =>
        rw [if_pos (by omega), if_pos (by omega), rd_bytes s i hi]
        cases hd : dgb s[i] with
        | false =>
          have hz : dgs (m + 1) (s.drop i) = [] := by rw [drop_at hi, dgs_cons, if_neg (by rw [hd]; simp)]
          rw [hz]
          have hn : ¬ (48 ≤ (s[i]).toNat ∧ (s[i]).toNat ≤ 57) := fun e => by rw [(dgb_iff _).2 e] at hd; cases hd
          by_cases h4 : 48 ≤ (s[i]).toNat
          · rw [if_pos (by omega), if_neg (by omega)]; rfl
          · rw [if_neg (by omega)]; rfl
        | true =>
          have hy := (dgb_iff _).1 hd
          have hz : dgs (m + 1) (s.drop i) = s[i] :: dgs m (s.drop (i + 1)) := by rw [drop_at hi, dgs_cons, if_pos hd]
          have hacc : acc * 10 + ((s[i]).toNat - 48) < 10 ^ (i + 1) := by rw [Nat.pow_succ]; omega
          have ih := one_l0 s hs m (i + 1) (acc * 10 + ((s[i]).toNat - 48)) F (by omega) (by omega) hacc
          rw [if_pos (by omega), if_pos (by omega), next_i i (by omega), wrap64_id (10 * (acc : Int)) (by omega) (by omega), wrap64_id ((s[i]).toNat : Int) (by omega) (by omega), wrap64_id (10 * (acc : Int) + ((s[i]).toNat : Int)) (by omega) (by omega), wrap64_id _ (by omega) (by omega), hz, List.length_cons]
          have e : dv acc (s[i] :: dgs m (s.drop (i + 1))) = dv (acc * 10 + ((s[i]).toNat - 48)) (dgs m (s.drop (i + 1))) := by unfold dv; rw [List.foldl_cons]
          rw [e, show F + ((dgs m (s.drop (i + 1))).length + 1) = F + (dgs m (s.drop (i + 1))).length + 1 by omega, show 10 * (acc : Int) + ((s[i]).toNat : Int) - 48 = ((acc * 10 + ((s[i]).toNat - 48) : Nat) : Int) by omega, ih, show i + 1 + (dgs m (s.drop (i + 1))).length = i + ((dgs m (s.drop (i + 1))).length + 1) by omega]
    · have hz : dgs m (s.drop i) = [] := by rw [List.drop_eq_nil_of_le hi]; cases m <;> rfl
      rw [if_neg (by omega), hz]
      rfl
/-- What the search for '=' comes to. -/
def oneV (i n : Nat) (T : List UInt8) : ByteArray × ByteArray × Int :=
  if (cut ((T.take (n - 1)).drop (i + 1)) [61]).2.2 = true then
    (if okR (cut ((T.take (n - 1)).drop (i + 1)) [61]).1 (cut ((T.take (n - 1)).drop (i + 1)) [61]).2.1 = true ∧ lineL (cut ((T.take (n - 1)).drop (i + 1)) [61]).1 (cut ((T.take (n - 1)).drop (i + 1)) [61]).2.1 = T then
      (tx (cut ((T.take (n - 1)).drop (i + 1)) [61]).1, tx (cut ((T.take (n - 1)).drop (i + 1)) [61]).2.1, (n : Int)) else (tx [], tx [], 0))
  else (tx [], tx [], 0)
theorem one_l1_no (i n : Nat) (T : List UInt8) (hT : T.length = n) (hn : n ≤ 1048576) : ∀ (m p f : Nat), p + m = n - 1 → (∀ b ∈ (T.take (n - 1)).drop p, b ≠ 61) → m + 1 ≤ f → mudlarkref03_one.l1 f (n : Int) (i : Int) (tx T) (p : Int) = some (tx [], tx [], 0)
  | m, p, 0, h1, h2, h3 => (by omega : False).elim
  | m, p, f + 1, h1, h2, h3 => by
    rw [mudlarkref03_one.l1, wrap64_id _ (by omega) (by omega)]
    cases m with
    | zero => rw [if_neg (by omega)]; rfl
    | succ m =>
      have hp : p < (T.take (n - 1)).length := by rw [List.length_take]; omega
      have hpT : p < T.length := by omega
      have hg : (T.take (n - 1))[p] = T[p] := List.getElem_take
      rw [drop_at hp] at h2
      have hb : T[p] ≠ 61 := by rw [← hg]; exact h2 _ (by simp)
      rw [if_pos (by omega), if_pos (by omega), tx_size, if_pos (by omega), bt_tx T p hpT, if_neg (fun e => hb (UInt8.toNat_inj.1 (by show _ = 61; omega))), next_i p (by omega)]
      exact one_l1_no i n T hT hn m (p + 1) f (by omega) (fun b hb => h2 b (by simp [hb])) (by omega)
theorem one_l1_to (i n : Nat) (T : List UInt8) (hT : T.length = n) (hn : n ≤ 1048576) (c : List UInt8) : ∀ (a : List UInt8) (p F : Nat), (T.take (n - 1)).drop p = a ++ 61 :: c → (∀ b ∈ a, b ≠ 61) → mudlarkref03_one.l1 (F + a.length) (n : Int) (i : Int) (tx T) (p : Int) = mudlarkref03_one.l1 F (n : Int) (i : Int) (tx T) ((p + a.length : Nat) : Int)
  | [], p, F, h1, h2 => rfl
  | x :: a, p, F, h1, h2 => by
    have hp : p < (T.take (n - 1)).length := by
      rcases Nat.lt_or_ge p (T.take (n - 1)).length with h | h
      · exact h
      · rw [List.drop_eq_nil_of_le h] at h1; cases h1
    have hpl := hp
    rw [List.length_take] at hpl
    have hpT : p < T.length := by omega
    have hg : (T.take (n - 1))[p] = T[p] := List.getElem_take
    rw [drop_at hp, List.cons_append] at h1
    obtain ⟨e1, e2⟩ := List.cons.inj h1
    have hb : T[p] ≠ 61 := by rw [← hg, e1]; exact h2 _ (by simp)
    rw [List.length_cons, show F + (a.length + 1) = F + a.length + 1 by omega, mudlarkref03_one.l1, wrap64_id _ (by omega) (by omega), if_pos (by omega), if_pos (by omega), tx_size, if_pos (by omega), bt_tx T p hpT, if_neg (fun e => hb (UInt8.toNat_inj.1 (by show _ = 61; omega))), next_i p (by omega), one_l1_to i n T hT hn c a (p + 1) F e2 (fun b hb => h2 b (by simp [hb])), show p + 1 + a.length = p + (a.length + 1) by omega]
theorem one_l1 (i n : Nat) (T : List UInt8) (hT : T.length = n) (hn : n ≤ 1048576) (hi : i < n) (f : Nat) (hf : 2 * n + 40 ≤ f) : mudlarkref03_one.l1 f (n : Int) (i : Int) (tx T) ((i + 1 : Nat) : Int) = some (oneV i n T) := by
  unfold oneV
  rcases split_at 61 ((T.take (n - 1)).drop (i + 1)) with h | ⟨a, c, h, ha⟩
  · rw [cutL_no _ _ h, if_neg (by simp)]
    by_cases hin : i + 1 ≤ n - 1
    · exact one_l1_no i n T hT hn (n - 1 - (i + 1)) (i + 1) f (by omega) h (by omega)
    · obtain ⟨f, rfl⟩ : ∃ q, f = q + 1 := ⟨f - 1, by omega⟩
      rw [mudlarkref03_one.l1, wrap64_id _ (by omega) (by omega), if_neg (by omega)]
      rfl
  · have hlen := congrArg List.length h
    rw [List.length_drop, List.length_take, List.length_append, List.length_cons] at hlen
    obtain ⟨F, rfl⟩ : ∃ q, f = q + 1 + a.length := ⟨f - 1 - a.length, by omega⟩
    have hx : T.take (n - 1) = T.take (i + 1) ++ (a ++ 61 :: c) := by
      have h9 := List.take_append_drop (i + 1) (T.take (n - 1))
      rw [h, List.take_take, Nat.min_eq_left (by omega)] at h9
      exact h9.symm
    have hti : (T.take (i + 1)).length = i + 1 := by rw [List.length_take]; omega
    have hq : i + 1 + a.length < T.length := by omega
    have hbt : T[i + 1 + a.length] = 61 := by
      have e : (T.take (n - 1))[i + 1 + a.length]? = some 61 := by
        rw [hx, List.getElem?_append_right (by omega), hti, List.getElem?_append_right (by omega), show i + 1 + a.length - (i + 1) - a.length = 0 by omega]
        rfl
      rw [List.getElem?_take_of_lt (by omega), List.getElem?_eq_getElem hq] at e
      exact Option.some.inj e
    have hk : (T.take (i + 1 + a.length)).drop (i + 1) = a := by
      have : T.take (i + 1 + a.length) = (T.take (n - 1)).take (i + 1 + a.length) := by rw [List.take_take, Nat.min_eq_left (by omega)]
      rw [this, hx, List.take_append, hti, List.take_of_length_le (by omega), show i + 1 + a.length - (i + 1) = a.length by omega, List.take_left, List.drop_append, hti, Nat.sub_self, List.drop_of_length_le (by omega), List.drop_zero, List.nil_append]
    have hv : (T.take (n - 1)).drop (i + 1 + a.length + 1) = c := by
      rw [hx, List.drop_append, hti, List.drop_of_length_le (by omega), show i + 1 + a.length + 1 - (i + 1) = a.length + 1 by omega, List.nil_append, ← List.drop_drop, List.drop_left]
      rfl
    rw [one_l1_to i n T hT hn c a (i + 1) (F + 1) h ha, mudlarkref03_one.l1, wrap64_id ((n : Int) - 1) (by omega) (by omega), if_pos (by omega), if_pos (by omega), tx_size, if_pos (by omega), bt_tx T _ hq, hbt, if_pos (by decide), next_i i (by omega), next_i _ (by omega), if_pos (by omega), if_pos (by omega), if_pos (by omega), if_pos (by omega), if_pos (by omega), if_pos (by omega)]
    rw [Int.toNat_natCast, Int.toNat_natCast, Int.toNat_natCast, show ((n : Int) - 1).toNat = n - 1 by omega, tx_cut, tx_cut, hk, hv, h, cutL_at _ _ _ ha]
    simp only
    rw [if_pos trivial, RRight_eq a c F (by omega) (by omega), Option.bind_some]
    cases hok : okR a c with
    | false => rw [if_neg (by simp), if_neg (by simp)]; rfl
    | true =>
      rw [if_pos rfl, RLine_eq _ _ (by rw [tx_size, tx_size]; omega) F (by omega), Option.bind_some, tx_toList, tx_toList, data_tx, data_tx]
      by_cases hl : lineL a c = T
      · rw [if_pos hl, if_pos ⟨rfl, hl⟩]
      · rw [if_neg hl, if_neg (fun e => hl e.2)]; rfl
/-- The reference's one, as lists. -/
def oneL (s : List UInt8) : ByteArray × ByteArray × Int :=
  if dv 0 (dgs 8 s) ≤ (dgs 8 s).length ∨ s.length < dv 0 (dgs 8 s) then (tx [], tx [], 0) else oneV (dgs 8 s).length (dv 0 (dgs 8 s)) (s.take (dv 0 (dgs 8 s)))
theorem bytes_take (s : List UInt8) (n : Nat) : (bytesOf (tx s)).take n = bytesOf (tx (s.take n)) := by rw [bytes_of, bytes_of, List.map_take]
theorem bytes_drop (s : List UInt8) (n : Nat) : (bytesOf (tx s)).drop n = bytesOf (tx (s.drop n)) := by rw [bytes_of, bytes_of, List.map_drop]
theorem one_eq (s : List UInt8) (hs : s.length ≤ 1048576) (f : Nat) (hf : 2 * s.length + 60 ≤ f) : mudlarkref03_one.f f (bytesOf (tx s)) = some (oneL s) := by
  obtain ⟨hd1, hd2, hd3⟩ := dgs_dig 8 s
  have hdv := dv_le (dgs 8 s) 0 hd1
  have h8 : 10 ^ (dgs 8 s).length ≤ 10 ^ 8 := Nat.pow_le_pow_right (by omega) hd2
  have h8' : (10 : Nat) ^ 8 = 100000000 := by decide
  obtain ⟨F, rfl⟩ : ∃ q, f = (q + 2) + (dgs 8 s).length + 1 := ⟨f - 3 - (dgs 8 s).length, by omega⟩
  have h := one_l0 s hs 8 0 0 (F + 2) (by omega) (by omega) (by omega)
  rw [List.drop_zero] at h
  unfold mudlarkref03_one.f oneL
  rw [show ((0 : Nat) : Int) = 0 from rfl] at h
  rw [h, Nat.zero_add, mudlarkref03_one.j1]
  by_cases c1 : dv 0 (dgs 8 s) ≤ (dgs 8 s).length
  · rw [if_pos (by omega), mudlarkref03_one.j2, if_pos rfl, if_pos (.inl c1)]
    rfl
  · rw [if_neg (by omega), mudlarkref03_one.j2, bytes_len]
    by_cases c2 : s.length < dv 0 (dgs 8 s)
    · rw [decide_eq_true (by omega), if_pos rfl, if_pos (.inr c2)]
      rfl
    · rw [decide_eq_false (by omega), if_neg (by simp), if_pos (by omega), if_pos (by omega), if_neg (by omega), Int.toNat_natCast, bytes_take, nums_bytes, next_i _ (by omega)]
      exact one_l1 _ _ _ (by rw [List.length_take]; omega) (by omega) (by omega) F (by omega)
theorem oneV_ok (i n : Nat) (T : List UInt8) (h : (oneV i n T).2.2 ≠ 0) : ∃ k v, okR k v = true ∧ lineL k v = T ∧ oneV i n T = (tx k, tx v, (n : Int)) := by
  unfold oneV at h ⊢
  by_cases c1 : (cut ((T.take (n - 1)).drop (i + 1)) [61]).2.2 = true
  · rw [if_pos c1] at h ⊢
    by_cases c2 : okR (cut ((T.take (n - 1)).drop (i + 1)) [61]).1 (cut ((T.take (n - 1)).drop (i + 1)) [61]).2.1 = true ∧ lineL (cut ((T.take (n - 1)).drop (i + 1)) [61]).1 (cut ((T.take (n - 1)).drop (i + 1)) [61]).2.1 = T
    · rw [if_pos c2]
      exact ⟨_, _, c2.1, c2.2, rfl⟩
    · rw [if_neg c2] at h; exact absurd rfl h
  · rw [if_neg c1] at h; exact absurd rfl h
theorem one_of (k v t : List UInt8) (h : okR k v = true) (hl : (lineL k v).length ≤ 1048576) (hk : k.length + v.length ≤ 100000000000000) : oneL (lineL k v ++ t) = (tx k, tx v, ((lineL k v).length : Int)) := by
  have hlen := lineL_len k v hk
  have hbd := lnN_le k v hk
  have hnd : nDigits (lnN k v) ≤ 7 := nd_le 6 _ (by omega)
  have hdl := decDigits_length (lnN k v)
  have hkk := okR_key h
  have e1 : lineL k v ++ t = decDigits (lnN k v) ++ 32 :: (k ++ 61 :: (v ++ 10 :: t)) := by unfold lineL restL; simp
  have hd : dgs 8 (lineL k v ++ t) = decDigits (lnN k v) := by
    rw [e1]
    exact dgs_of _ 8 32 _ (dd_dig _) (by decide) (by omega)
  have ht : (lineL k v ++ t).take (lnN k v) = lineL k v := by rw [← hlen, List.take_left]
  have e3 : lineL k v = (decDigits (lnN k v) ++ 32 :: (k ++ 61 :: v)) ++ [10] := by unfold lineL restL; simp
  have hc : ((lineL k v).take (lnN k v - 1)).drop ((decDigits (lnN k v)).length + 1) = k ++ 61 :: v := by
    have h5 : (lineL k v).take (lnN k v - 1) = decDigits (lnN k v) ++ 32 :: (k ++ 61 :: v) := by
      have hX : (decDigits (lnN k v) ++ 32 :: (k ++ 61 :: v)).length = lnN k v - 1 := by
        have := congrArg List.length e3
        rw [hlen, List.length_append, List.length_singleton] at this
        omega
      rw [← hX, e3, List.take_left]
    rw [h5, ← List.drop_drop, List.drop_left]
    rfl
  have hsum : (decDigits (lnN k v)).length + (k.length + v.length + 3) = lnN k v := by
    have := hlen
    unfold lineL at this
    rw [List.length_append, restL_len] at this
    exact this
  unfold oneL
  rw [hd, dd_dv, ht, if_neg (by rw [List.length_append]; omega)]
  unfold oneV
  rw [hc, cutL_at _ _ _ (ok_no61 k hkk)]
  simp only
  rw [if_pos trivial, if_pos ⟨h, trivial⟩, hlen]
theorem one_first (s : List UInt8) (hs : s.length ≤ 1048576) : oneL s = if (firstL s).2.2.2 = true then (tx (firstL s).1, tx (firstL s).2.1, ((s.length - (firstL s).2.2.1.length : Nat) : Int)) else (tx [], tx [], 0) := by
  cases hb : (firstL s).2.2.2 with
  | true =>
    obtain ⟨h1, h2⟩ := first_ok s hb
    have hlen := congrArg List.length h2
    rw [List.length_append] at hlen
    have hl : (firstL s).1.length + (firstL s).2.1.length ≤ (lineL (firstL s).1 (firstL s).2.1).length := by unfold lineL; rw [List.length_append, restL_len]; omega
    have h3 := one_of _ _ (firstL s).2.2.1 h1 (by omega) (by omega)
    rw [← h2] at h3
    rw [h3, if_pos rfl, show s.length - (firstL s).2.2.1.length = (lineL (firstL s).1 (firstL s).2.1).length by omega]
  | false =>
    rw [if_neg (by simp)]
    unfold oneL
    split
    · rfl
    · rename_i hc
      by_cases hz : (oneV (dgs 8 s).length (dv 0 (dgs 8 s)) (s.take (dv 0 (dgs 8 s)))).2.2 = 0
      · unfold oneV at hz ⊢
        split at hz
        · rename_i c1
          split at hz
          · have : (dv 0 (dgs 8 s) : Int) = 0 := hz
            omega
          · rename_i c2
            rw [if_pos c1, if_neg c2]
        · rename_i c1
          rw [if_neg c1]
      · obtain ⟨k, v, hok, hl, _⟩ := oneV_ok _ _ _ hz
        have e : s = lineL k v ++ s.drop (dv 0 (dgs 8 s)) := by rw [hl, List.take_append_drop]
        have hlen := congrArg List.length e
        rw [List.length_append] at hlen
        have hkv : k.length + v.length ≤ (lineL k v).length := by unfold lineL; rw [List.length_append, restL_len]; omega
        have := first_of k v (s.drop (dv 0 (dgs 8 s))) hok (by omega) (by omega)
        rw [← e] at this
        rw [this] at hb
        cases hb
theorem rparse_l0 : ∀ (m : Nat) (s : List UInt8) (acc : List S41) (f : Nat) (z : List S41 × Bool), s.length ≤ 1048576 → parseF m (tx s) = some z → acc.length + m ≤ 3000000 → m + 2 * s.length + 70 ≤ f →
    mudlarkref03_Parse.l0 f (bytesOf (tx s)) acc = some (if z.2 = true then (if 1000 < (acc ++ z.1).length then ([], 3) else (acc ++ z.1, 0)) else ([], 34))
  | m, s, acc, 0, z, h1, h2, h3, h4 => (by omega : False).elim
  | m, s, acc, f + 1, z, h1, h2, h3, h4 => by
    rw [mudlarkref03_Parse.l0, bytes_len]
    by_cases hne : s = []
    · subst hne
      rw [parse_nil] at h2
      obtain rfl := Option.some.inj h2
      rw [if_neg (by simp), if_pos rfl, List.append_nil]
      by_cases c : 1000 < acc.length
      · rw [if_pos (by omega), if_pos c]
      · rw [if_neg (by omega), if_neg c]
    · have hp : 0 < s.length := List.length_pos_iff.2 hne
      rw [if_pos (by omega), one_eq s h1 f (by omega), Option.bind_some, one_first s h1]
      cases m with
      | zero => rw [parseF, if_neg (by rw [tx_toList]; exact hne)] at h2; cases h2
      | succ m =>
        rw [parseF, if_neg (by rw [tx_toList]; exact hne), first_eq s h1 40 (Nat.le_refl _), Option.bind_some] at h2
        simp only at h2
        cases hb : (firstL s).2.2.2 with
        | false =>
          rw [hb, if_neg (by simp)] at h2
          obtain rfl := Option.some.inj h2
          simp only [Bool.false_eq_true, if_false]
          rw [if_pos trivial]
        | true =>
          rw [hb, if_pos rfl] at h2
          obtain ⟨w, hw, rfl⟩ := Option.map_eq_some_iff.1 h2
          obtain ⟨g1, g2⟩ := first_ok s hb
          have hlen := congrArg List.length g2
          rw [List.length_append] at hlen
          have hl : 1 ≤ (lineL (firstL s).1 (firstL s).2.1).length := by unfold lineL; rw [List.length_append, restL_len]; omega
          have hdr : s.drop (s.length - (firstL s).2.2.1.length) = (firstL s).2.2.1 := by
            rw [show s.length - (firstL s).2.2.1.length = (lineL (firstL s).1 (firstL s).2.1).length by omega]
            have e := congrArg (List.drop (lineL (firstL s).1 (firstL s).2.1).length) g2
            rw [List.drop_left] at e
            exact e
          simp only [eq_self, if_true]
          rw [if_neg (by omega), if_pos (by omega), if_pos (by omega), if_pos (by omega), Int.toNat_natCast, bytes_drop, hdr, rparse_l0 m (firstL s).2.2.1 _ f w (by omega) hw (by rw [List.length_append, List.length_singleton]; omega) (by omega), List.append_assoc]
          rfl
theorem RParse_eq (s : List UInt8) (hs : s.length ≤ 1048576) (f : Nat) (hf : 3 * s.length + 80 ≤ f) : mudlarkref03_Parse.f f (bytesOf (tx s)) = pax_Parse.f (bytesOf (tx s)) ∧ ∃ q, pax_Parse.f (bytesOf (tx s)) = some q ∧ q.1.length ≤ 1000 ∧ 0 ≤ q.2 ∧ q.2 ≤ 34 := by
  obtain ⟨z, hz⟩ := parse_total s.length s (Nat.le_refl _) hs
  have h := rparse_l0 s.length s [] f z hs hz (by rw [List.length_nil]; omega) (by omega)
  rw [List.nil_append] at h
  unfold mudlarkref03_Parse.f pax_Parse.f
  rw [bytes_len, if_neg (by omega), if_neg (by omega), nums_bytes, hz, Option.bind_some, h]
  refine ⟨rfl, _, rfl, ?_⟩
  by_cases c1 : z.2 = true
  · rw [if_pos c1]
    by_cases c2 : 1000 < z.1.length
    · rw [if_pos c2]; simp
    · rw [if_neg c2]; exact ⟨by show z.1.length ≤ 1000; omega, by simp, by simp⟩
  · rw [if_neg c1]; simp
/-- Bytes are a text. -/
theorem bytes_ex : ∀ (b : List Int), (∀ x ∈ b, (Lit.int .u8 x).wf = true) → ∃ s : List UInt8, b = bytesOf (tx s)
  | [], _ => ⟨[], rfl⟩
  | x :: b, h => by
    obtain ⟨s, rfl⟩ := bytes_ex b (fun y hy => h y (by simp [hy]))
    have hw := h x (by simp)
    have hx : 0 ≤ x ∧ x ≤ 255 := by simpa [Lit.wf, IntKind.min, IntKind.max, IntKind.signed, IntKind.bits] using hw
    refine ⟨UInt8.ofNat x.toNat :: s, ?_⟩
    rw [bytes_of, bytes_of, List.map_cons, UInt8.toNat_ofNat', show ((x.toNat % 2 ^ 8 : Nat) : Int) = x by omega]
theorem bytes_wf (s : List UInt8) : ∀ x ∈ bytesOf (tx s), (Lit.int .u8 x).wf = true := by
  rw [bytes_of]
  intro x hx
  obtain ⟨b, _, rfl⟩ := List.mem_map.1 hx
  have := b.toNat_lt
  simp [Lit.wf, IntKind.min, IntKind.max, IntKind.signed, IntKind.bits]
  omega
end Go.Proofs.YtcbeehchhhoeeaaDoor.P
