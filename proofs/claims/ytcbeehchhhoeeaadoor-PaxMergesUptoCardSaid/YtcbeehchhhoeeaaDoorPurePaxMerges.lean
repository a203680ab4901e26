/- The statement PaxMerges (second form), in lists and numbers. No conditions. -/
import Derived.Test.YtcbeehchhhoeeaaDoorHPaxV
import Derived.Test.YtcbeehchhhoeeaaDoorPx7
import Derived.Test.YtcbeehchhhoeeaaDoorHMerge
import Derived.Test.YtcbeehchhhoeeaaDoorPx12
import Derived.Sort.Walk0
import Derived.Test.YtcbeehchhhoeeaaDoorPx0
import Derived.Test.YtcbeehchhhoeeaaDoorRows
import Derived.Deep.SlicePairs
import Derived.Test.YtcbeehchhhoeeaaDoorPx13
import Derived.Test.YtcbeehchhhoeeaaDoorHTabEL
/-! ### HPaxS -/
namespace Go.Proofs.YtcbeehchhhoeeaaDoor.P
open Go Go.RowKit Go.Lib Go.Proofs Go.Proofs.YtcbeehchhhoeeaaDoorW.PrintWords Go.Proofs.YtcbeehchhhoeeaaDoorW.PrintLast Go.Proofs.YtcbeehchhhoeeaaDoorW.PrintMore
set_option linter.unusedVariables false
set_option linter.unusedSimpArgs false

theorem same_l0 (l : List S41) (hl : l.length ≤ 1000000000000) : ∀ (m i f : Nat), i + m = l.length → m + 1 ≤ f → mudlarkref03_Same.l0 f l l (i : Int) = some true
  | m, i, 0, h1, h2 => (by omega : False).elim
  | m, i, f + 1, h1, h2 => by
    rw [mudlarkref03_Same.l0]
    cases m with
    | zero => rw [if_neg (by omega)]
    | succ m =>
      rw [if_pos (by omega), if_pos (by omega), if_pos (by omega), if_neg (by rw [beq_self_eq_true, beq_self_eq_true]; simp), next_i i (by omega)]
      exact same_l0 l hl m (i + 1) f (by omega) (by omega)
theorem Same_self (l : List S41) (hl : l.length ≤ 1000000000000) (k : Nat) (hk : l.length + 1 ≤ k) : mudlarkref03_Same.f k l l = some true := by
  unfold mudlarkref03_Same.f
  rw [if_pos rfl]
  exact same_l0 l hl l.length 0 k (by omega) hk
end Go.Proofs.YtcbeehchhhoeeaaDoor.P

/-! ### HPaxM -/
namespace Go.Proofs.YtcbeehchhhoeeaaDoor.P
open Go Go.RowKit Go.Lib Go.Maps Go.WideShapes Go.Proofs Go.Proofs.YtcbeehchhhoeeaaDoorW.PrintWords Go.Proofs.YtcbeehchhhoeeaaDoorW.PrintLast Go.Proofs.YtcbeehchhhoeeaaDoorW.PrintMore
set_option linter.unusedVariables false
set_option linter.unusedSimpArgs false

def kOf (p : S41) : List UInt8 := p.f0.data.toList
def vOf (p : S41) : List UInt8 := p.f1.data.toList
theorem rec_of (p : S41) : p = ⟨tx (kOf p), tx (vOf p)⟩ := by unfold kOf vOf; rw [tx_data, tx_data]
/-- The last value of a key; none: no bytes. -/
def lastV (k : List UInt8) (l : List S41) : List UInt8 := l.foldl (fun v p => if kOf p = k then vOf p else v) []
theorem lastV_snoc (k : List UInt8) (l : List S41) (p : S41) : lastV k (l ++ [p]) = if kOf p = k then vOf p else lastV k l := by unfold lastV; rw [List.foldl_append]; rfl
def StrK (D : DataW Unit) : Prop := ∀ es, D = .map es → ∀ p ∈ es, ∃ x, p.1 = .string x
theorem StrK.put {D : DataW Unit} (h : StrK D) (hm : IsMap D) (k : List UInt8) (d : DataW Unit) : StrK (D.put (.string k) d) := by
  obtain ⟨es, rfl⟩ := hm
  intro es' he p hp
  have e : es' = DataW.insert (.string k, d) (es.filter fun p => !p.1.sameKey (.string k)) := by injection he with he; exact he.symm
  rw [e] at hp
  rcases List.mem_cons.1 ((insert_perm (.string k, d) _).mem_iff.1 hp) with rfl | hp
  · exact ⟨k, rfl⟩
  · exact h es rfl p (List.mem_filter.1 hp).1
theorem valD_put {D : DataW Unit} (hm : IsMap D) (a v k : List UInt8) : valD (D.put (.string a) (.lit (.string v))) k = if a = k then v else valD D k := by
  unfold valD
  by_cases h : a = k
  · subst h
    rw [if_pos rfl, atKey_put_same hm (by trivial)]
  · rw [if_neg h, atKey_put_other (fun e => h (by injection e with e; exact e.symm))]
theorem fold_facts : ∀ (l : List S41) (m : DataW Unit), Tidy m → StrK m →
    Tidy (l.foldl (fun m p => m.put (.string p.f0.data.toList) (.lit (.string p.f1.data.toList))) m) ∧ StrK (l.foldl (fun m p => m.put (.string p.f0.data.toList) (.lit (.string p.f1.data.toList))) m) ∧
    (∀ k, has (l.foldl (fun m p => m.put (.string p.f0.data.toList) (.lit (.string p.f1.data.toList))) m) (.string k) = (has m (.string k) || l.any (fun p => kOf p == k))) ∧
    (∀ k, valD (l.foldl (fun m p => m.put (.string p.f0.data.toList) (.lit (.string p.f1.data.toList))) m) k = l.foldl (fun v p => if kOf p = k then vOf p else v) (valD m k)) ∧
    size (l.foldl (fun m p => m.put (.string p.f0.data.toList) (.lit (.string p.f1.data.toList))) m) ≤ size m + l.length
  | [], m, h1, h2 => ⟨h1, h2, fun k => by simp, fun k => rfl, by simp⟩
  | p :: l, m, h1, h2 => by
    obtain ⟨a, b, c, d, e⟩ := fold_facts l (m.put (.string p.f0.data.toList) (.lit (.string p.f1.data.toList))) (h1.put (by trivial) _) (h2.put h1.isMap _ _)
    refine ⟨a, b, fun k => ?_, fun k => ?_, ?_⟩
    · rw [List.foldl_cons, c k, List.any_cons]
      by_cases hk : kOf p = k
      · rw [show p.f0.data.toList = k from hk, has_put_same h1.isMap (by trivial), beq_iff_eq.2 hk]
        simp
      · rw [has_put_other (fun e => hk (by injection e with e; exact e.symm)), beq_eq_false_iff_ne.2 hk, Bool.false_or]
    · rw [List.foldl_cons, d k, valD_put h1.isMap, List.foldl_cons]
      rfl
    · rw [List.foldl_cons, List.length_cons]
      have := size_put (k := .string p.f0.data.toList) h1 (.lit (.string p.f1.data.toList))
      split at this <;> omega
theorem mapD_facts (l : List S41) : Tidy (mapD l) ∧ StrK (mapD l) ∧ (∀ k, has (mapD l) (.string k) = l.any (fun p => kOf p == k)) ∧ (∀ k, valD (mapD l) k = lastV k l) ∧ size (mapD l) ≤ l.length := by
  obtain ⟨a, b, c, d, e⟩ := fold_facts l (.map []) tidy_empty (fun es he p hp => by injection he with he; rw [← he] at hp; cases hp)
  refine ⟨a, b, fun k => c k, fun k => d k, ?_⟩
  have h0 : size (.map [] : DataW Unit) = 0 := rfl
  rw [h0, Nat.zero_add] at e
  exact e
/-- The sorted keys. -/
def keysS (l : List S41) : List (List UInt8) := (strKeys (mapD l)).mergeSort leB
theorem merge_eq (l : List S41) : mergeL l = (keysS l).flatMap fun k => if lastV k l = [] then [] else [⟨tx k, tx (lastV k l)⟩] := by
  unfold mergeL keepD keysS
  have h := (mapD_facts l).2.2.2.1
  simp only [h]
theorem leB_tr (a b c : List UInt8) (h1 : leB a b = true) (h2 : leB b c = true) : leB a c = true := by simp only [leB, decide_eq_true_eq] at *; exact List.le_trans h1 h2
theorem leB_to (a b : List UInt8) : (leB a b || leB b a) = true := by simp only [leB, Bool.or_eq_true, decide_eq_true_eq]; exact List.le_total a b
theorem keysS_facts (l : List S41) : (keysS l).Pairwise (fun a b => a < b) ∧ (∀ k, k ∈ keysS l ↔ ∃ p ∈ l, kOf p = k) ∧ (keysS l).length ≤ l.length := by
  obtain ⟨⟨es, hD, hp⟩, hs, hh, _, hz⟩ := mapD_facts l
  have hstr := hs es hD
  have hnd : (strKeys (mapD l)).Nodup := by
    rw [hD]
    show (es.map fun p => strOf p.1).Nodup
    refine List.pairwise_map.2 (hp.imp_of_mem fun {p q} hp' hq' hne e => hne ?_)
    obtain ⟨a, ha⟩ := hstr p hp'
    obtain ⟨b, hb⟩ := hstr q hq'
    rw [ha, hb] at e ⊢
    exact congrArg _ e
  have hmem : ∀ k, k ∈ strKeys (mapD l) ↔ ∃ p ∈ l, kOf p = k := by
    intro k
    have h1 := hh k
    rw [hD, has_eq] at h1
    have h2 : (es.any fun p => p.1.sameKey (.string k)) = true ↔ k ∈ es.map fun p => strOf p.1 := by
      rw [List.any_eq_true, List.mem_map]
      constructor
      · rintro ⟨q, hq, he⟩
        obtain ⟨x, hx⟩ := hstr q hq
        refine ⟨q, hq, ?_⟩
        rw [hx] at he ⊢
        exact beq_iff_eq.1 he
      · rintro ⟨q, hq, he⟩
        obtain ⟨x, hx⟩ := hstr q hq
        refine ⟨q, hq, ?_⟩
        rw [hx] at he ⊢
        exact beq_iff_eq.2 he
    rw [hD]
    show k ∈ es.map _ ↔ _
    rw [← h2, h1, List.any_eq_true]
    exact ⟨fun ⟨p, hp, he⟩ => ⟨p, hp, beq_iff_eq.1 he⟩, fun ⟨p, hp, he⟩ => ⟨p, hp, beq_iff_eq.2 he⟩⟩
  have hperm := List.mergeSort_perm (strKeys (mapD l)) leB
  refine ⟨?_, fun k => ?_, ?_⟩
  · have h1 := List.pairwise_mergeSort leB_tr leB_to (strKeys (mapD l))
    have h2 : ((strKeys (mapD l)).mergeSort leB).Nodup := hperm.nodup_iff.2 hnd
    refine (h1.and h2).imp (fun {a b} h => ?_)
    have hle : a ≤ b := by simpa [leB] using h.1
    rcases Decidable.em (a < b) with h3 | h3
    · exact h3
    · exact (h.2 (List.le_antisymm hle h3)).elim
  · unfold keysS
    rw [hperm.mem_iff, hmem]
  · unfold keysS
    rw [List.length_mergeSort]
    rw [hD] at hz ⊢
    simpa [strKeys, size] using hz
/-! ### Rows by rising keys -/
def Rising (s : List S41) : Prop := s.Pairwise (fun a b => kOf a < kOf b)
theorem lastV_none (k : List UInt8) : ∀ l : List S41, (∀ p ∈ l, kOf p ≠ k) → ∀ v, l.foldl (fun v p => if kOf p = k then vOf p else v) v = v
  | [], _, v => rfl
  | p :: l, h, v => by
    rw [List.foldl_cons, if_neg (h p (by simp))]
    exact lastV_none k l (fun q hq => h q (by simp [hq])) v
theorem lt_ne {a b : List UInt8} (h : a < b) : a ≠ b := fun e => by subst e; exact List.lt_irrefl a h
theorem lastV_cons (k : List UInt8) (p : S41) (s : List S41) (h : ∀ q ∈ s, kOf p < kOf q) : lastV k (p :: s) = if kOf p = k then vOf p else lastV k s := by
  unfold lastV
  rw [List.foldl_cons]
  by_cases hk : kOf p = k
  · rw [if_pos hk, if_pos hk]
    exact lastV_none k s (fun q hq e => lt_ne (h q hq) (hk.trans e.symm)) _
  · rw [if_neg hk, if_neg hk]
theorem lastV_mem (k : List UInt8) : ∀ (l : List S41) (v : List UInt8), (l.foldl (fun v p => if kOf p = k then vOf p else v) v = v ∧ ∀ p ∈ l, kOf p ≠ k) ∨ ∃ p ∈ l, kOf p = k ∧ l.foldl (fun v p => if kOf p = k then vOf p else v) v = vOf p
  | [], v => .inl ⟨rfl, by simp⟩
  | p :: l, v => by
    rw [List.foldl_cons]
    rcases lastV_mem k l (if kOf p = k then vOf p else v) with ⟨h1, h2⟩ | ⟨q, hq, h1, h2⟩
    · by_cases hk : kOf p = k
      · rw [if_pos hk] at h1 ⊢
        exact .inr ⟨p, by simp, hk, h1⟩
      · rw [if_neg hk] at h1 ⊢
        refine .inl ⟨h1, fun q hq => ?_⟩
        rcases List.mem_cons.1 hq with rfl | hq
        · exact hk
        · exact h2 q hq
    · exact .inr ⟨q, by simp [hq], h1, h2⟩
/-- Rows by rising keys, all with values, that tell the same, are one. -/
theorem rising_ext : ∀ (s t : List S41), Rising s → Rising t → (∀ p ∈ s, vOf p ≠ []) → (∀ p ∈ t, vOf p ≠ []) → (∀ k, lastV k s = lastV k t) → s = t
  | [], [], _, _, _, _, _ => rfl
  | [], q :: t, _, ht, _, h2, h => by
    have h3 := h (kOf q)
    rw [lastV_cons _ q t (List.pairwise_cons.1 ht).1, if_pos rfl] at h3
    exact (h2 q (by simp) h3.symm).elim
  | p :: s, [], hs, _, h1, _, h => by
    have h3 := h (kOf p)
    rw [lastV_cons _ p s (List.pairwise_cons.1 hs).1, if_pos rfl] at h3
    exact (h1 p (by simp) h3).elim
  | p :: s, q :: t, hs, ht, h1, h2, h => by
    obtain ⟨a1, a2⟩ := List.pairwise_cons.1 hs
    obtain ⟨b1, b2⟩ := List.pairwise_cons.1 ht
    have key : kOf p = kOf q := by
      have hp := h (kOf p)
      have hq := h (kOf q)
      rw [lastV_cons _ p s a1, lastV_cons _ q t b1, if_pos rfl] at hp
      rw [lastV_cons _ p s a1, lastV_cons _ q t b1, if_pos (rfl : kOf q = kOf q)] at hq
      rcases Decidable.em (kOf p = kOf q) with e | e
      · exact e
      · rw [if_neg (fun x => e x.symm)] at hp
        rw [if_neg e] at hq
        rcases lastV_mem (kOf p) t [] with ⟨x, _⟩ | ⟨y, hy, hk, _⟩
        · exact (h1 p (by simp) (hp.trans x)).elim
        · rcases lastV_mem (kOf q) s [] with ⟨x, _⟩ | ⟨z, hz, hk2, _⟩
          · exact (h2 q (by simp) (hq.symm.trans x)).elim
          · have c1 := b1 y hy
            have c2 := a1 z hz
            rw [hk] at c1
            rw [hk2] at c2
            exact (List.lt_irrefl _ (List.lt_trans c1 c2)).elim
    have hv : vOf p = vOf q := by
      have hp := h (kOf p)
      rw [lastV_cons _ p s a1, lastV_cons _ q t b1, if_pos rfl, if_pos key.symm] at hp
      exact hp
    have hpq : p = q := by rw [rec_of p, rec_of q, key, hv]
    subst hpq
    rw [rising_ext s t a2 b2 (fun x hx => h1 x (by simp [hx])) (fun x hx => h2 x (by simp [hx])) (fun k => ?_)]
    have hk := h k
    rw [lastV_cons _ p s a1, lastV_cons _ p t b1] at hk
    by_cases e : kOf p = k
    · have n1 := lastV_none k s (fun x hx e2 => lt_ne (a1 x hx) (e.trans e2.symm)) []
      have n2 := lastV_none k t (fun x hx e2 => lt_ne (b1 x hx) (e.trans e2.symm)) []
      exact n1.trans n2.symm
    · rw [if_neg e, if_neg e] at hk
      exact hk
/-- A row out of keys that rise. -/
theorem flat_facts (V : List UInt8 → List UInt8) : ∀ ks : List (List UInt8), ks.Pairwise (fun a b => a < b) →
    Rising (ks.flatMap fun k => if V k = [] then [] else [(⟨tx k, tx (V k)⟩ : S41)]) ∧ (∀ p ∈ ks.flatMap fun k => if V k = [] then [] else [(⟨tx k, tx (V k)⟩ : S41)], vOf p ≠ [] ∧ kOf p ∈ ks) ∧
    ∀ k, lastV k (ks.flatMap fun k => if V k = [] then [] else [(⟨tx k, tx (V k)⟩ : S41)]) = if k ∈ ks then V k else []
  | [], _ => ⟨List.Pairwise.nil, by simp, fun k => rfl⟩
  | a :: ks, h => by
    obtain ⟨h1, h2⟩ := List.pairwise_cons.1 h
    obtain ⟨i1, i2, i3⟩ := flat_facts V ks h2
    rw [List.flatMap_cons]
    by_cases hv : V a = []
    · rw [if_pos hv, List.nil_append]
      refine ⟨i1, fun p hp => ⟨(i2 p hp).1, by simp [(i2 p hp).2]⟩, fun k => ?_⟩
      rw [i3 k]
      by_cases hk : k = a
      · subst hk
        rw [if_pos (List.mem_cons_self ..), hv]
        split <;> rfl
      · by_cases hm : k ∈ ks
        · rw [if_pos hm, if_pos (by simp [hm])]
        · rw [if_neg hm, if_neg (by simp [hk, hm])]
    · rw [if_neg hv, List.cons_append, List.nil_append]
      have hlt : ∀ q ∈ ks.flatMap fun k => if V k = [] then [] else [(⟨tx k, tx (V k)⟩ : S41)], kOf (⟨tx a, tx (V a)⟩ : S41) < kOf q := fun q hq => h1 _ (i2 q hq).2
      refine ⟨List.pairwise_cons.2 ⟨hlt, i1⟩, fun p hp => ?_, fun k => ?_⟩
      · rcases List.mem_cons.1 hp with rfl | hp
        · exact ⟨hv, List.mem_cons_self ..⟩
        · exact ⟨(i2 p hp).1, by simp [(i2 p hp).2]⟩
      · show lastV k ((⟨tx a, tx (V a)⟩ : S41) :: _) = _
        rw [lastV_cons k _ _ hlt, i3 k, show kOf (⟨tx a, tx (V a)⟩ : S41) = a from rfl, show vOf (⟨tx a, tx (V a)⟩ : S41) = V a from rfl]
        by_cases hk : a = k
        · subst hk
          rw [if_pos rfl, if_pos (List.mem_cons_self ..)]
        · rw [if_neg (fun e => hk e)]
          by_cases hm : k ∈ ks
          · rw [if_pos hm, if_pos (by simp [hm])]
          · rw [if_neg hm, if_neg (by simp [Ne.symm hk, hm])]
theorem merge_facts (l : List S41) : Rising (mergeL l) ∧ (∀ p ∈ mergeL l, vOf p ≠ []) ∧ (∀ k, lastV k (mergeL l) = lastV k l) ∧ (∀ p ∈ mergeL l, ∃ q ∈ l, kOf q = kOf p ∧ vOf p = lastV (kOf p) l) ∧ (mergeL l).length ≤ l.length := by
  obtain ⟨k1, k2, k3⟩ := keysS_facts l
  obtain ⟨f1, f2, f3⟩ := flat_facts (fun k => lastV k l) (keysS l) k1
  rw [merge_eq]
  refine ⟨f1, fun p hp => (f2 p hp).1, fun k => ?_, fun p hp => ?_, ?_⟩
  · rw [f3 k]
    by_cases hm : k ∈ keysS l
    · rw [if_pos hm]
    · rw [if_neg hm]
      exact (lastV_none k l (fun p hp e => hm ((k2 k).2 ⟨p, hp, e⟩)) []).symm
  · obtain ⟨q, hq, e⟩ := (k2 _).1 (f2 p hp).2
    refine ⟨q, hq, e, ?_⟩
    obtain ⟨k, hk, hpk⟩ := List.mem_flatMap.1 hp
    split at hpk
    · cases hpk
    · obtain rfl := List.mem_singleton.1 hpk
      rfl
  · refine Nat.le_trans ?_ k3
    have : ∀ ks : List (List UInt8), (ks.flatMap fun k => if lastV k l = [] then [] else [(⟨tx k, tx (lastV k l)⟩ : S41)]).length ≤ ks.length := by
      intro ks
      induction ks with
      | nil => simp
      | cons a ks ih =>
        rw [List.flatMap_cons, List.length_append, List.length_cons]
        split
        · rw [List.length_nil]; omega
        · rw [List.length_singleton]; omega
    exact this _
/-- What is merged is told by its last values. -/
theorem merge_of (l s : List S41) (h1 : Rising s) (h2 : ∀ p ∈ s, vOf p ≠ []) (h3 : ∀ k, lastV k s = lastV k l) : mergeL l = s := by
  obtain ⟨a, b, c, _⟩ := merge_facts l
  exact rising_ext _ _ a h1 b h2 (fun k => (c k).trans (h3 k).symm)
theorem lastV_app (k : List UInt8) (a b : List S41) : lastV k (a ++ b) = b.foldl (fun v p => if kOf p = k then vOf p else v) (lastV k a) := by unfold lastV; rw [List.foldl_append]
end Go.Proofs.YtcbeehchhhoeeaaDoor.P

/-! ### HPaxO -/
namespace Go.Proofs.YtcbeehchhhoeeaaDoor.P
open Go Go.RowKit Go.Lib Go.Proofs Go.Proofs.YtcbeehchhhoeeaaDoorW.PrintWords Go.Proofs.YtcbeehchhhoeeaaDoorW.PrintLast Go.Proofs.YtcbeehchhhoeeaaDoorW.PrintMore
set_option linter.unusedVariables false
set_option linter.unusedSimpArgs false

theorem rd_some (l : List S41) (i : Nat) (h : i < l.length) : rd_T41 l (i : Int) = l[i] := by unfold rd_T41; rw [Int.toNat_natCast]; simp [List.getD, h]
theorem rfind_l0 (l : List S41) (key : ByteArray) (hl : l.length ≤ 1000000000000) : ∀ (n f : Nat), n ≤ l.length → n + 1 ≤ f → mudlarkref03_Find.l0 f l key ((n : Int) - 1) = some (findL key (l.take n).reverse)
  | n, 0, h1, h2 => (by omega : False).elim
  | 0, f + 1, h1, h2 => by
    rw [mudlarkref03_Find.l0, if_neg (by omega)]
    rfl
  | n + 1, f + 1, h1, h2 => by
    rw [mudlarkref03_Find.l0, show (((n + 1 : Nat) : Int) - 1) = (n : Int) by omega, if_pos (by omega), if_pos (by omega), if_pos (by omega), wrap64_id _ (by omega) (by omega), rfind_l0 l key hl n f (by omega) (by omega), rd_some l n (by omega), List.take_succ_eq_append_getElem (by omega), List.reverse_append, List.reverse_singleton, List.singleton_append, findL]
    split <;> rfl
theorem RFind_eq (l : List S41) (key : ByteArray) (hl : l.length ≤ 1000000000000) (f : Nat) (hf : l.length + 1 ≤ f) : mudlarkref03_Find.f f l key = some (findL key l.reverse) := by
  unfold mudlarkref03_Find.f
  rw [wrap64_id _ (by omega) (by omega), rfind_l0 l key hl l.length f (by omega) hf, List.take_length]
/-- A record in its place, in place of one of its key. -/
def putL (p : S41) : List S41 → List S41
  | [] => [p]
  | q :: t => if kOf q < kOf p then q :: putL p t else if kOf q = kOf p then p :: t else p :: q :: t
theorem putL_len (p : S41) : ∀ s : List S41, (putL p s).length ≤ s.length + 1
  | [] => by simp [putL]
  | q :: t => by
    have := putL_len p t
    rw [putL]
    split
    · rw [List.length_cons, List.length_cons]; omega
    · split <;> (simp only [List.length_cons]; omega)
theorem put_l0 (p : S41) (s : List S41) (hs : s.length ≤ 1000000000) : ∀ (m i f : Nat), i + m = s.length → m + 1 ≤ f → mudlarkref03_put.l0 f s (i : Int) p.f0 p.f1 = some (s.take i ++ putL p (s.drop i))
  | m, i, 0, h1, h2 => (by omega : False).elim
  | m, i, f + 1, h1, h2 => by
    have ht : (s.take i).length ≤ s.length := by rw [List.length_take]; omega
    have htd : (s.drop i).length ≤ s.length := by rw [List.length_drop]; omega
    rw [mudlarkref03_put.l0]
    cases m with
    | zero =>
      have hd : s.drop i = [] := List.drop_eq_nil_of_le (by omega)
      rw [if_neg (by omega), if_pos (by omega), if_pos (by omega), Option.bind_some, Int.toNat_natCast, if_pos (by simp only [List.length_nil]; omega), Option.bind_some, List.nil_append, if_pos (by omega), Option.bind_some, Option.bind_some, if_pos (by rw [List.length_append, List.length_singleton]; omega), hd, List.append_nil]
      rfl
    | succ m =>
      have hi : i < s.length := by omega
      have hd : s.drop i = rd_T41 s (i : Int) :: s.drop (i + 1) := by rw [rd_some s i hi, List.drop_eq_getElem_cons hi]
      have htd1 : (s.drop (i + 1)).length ≤ s.length := by rw [List.length_drop]; omega
      have hta : s.take (i + 1) = s.take i ++ [rd_T41 s (i : Int)] := by rw [List.take_succ_eq_append_getElem hi, rd_some s i hi]
      rw [if_pos (by omega), if_pos (by omega), bytesLess_eq, Lib.toList_data, Lib.toList_data, next_i i (by omega)]
      change (if decide (kOf (rd_T41 s (i : Int)) < kOf p) = true then _ else _) = _
      rw [hd, putL]
      by_cases hlt : kOf (rd_T41 s (i : Int)) < kOf p
      · rw [if_pos (decide_eq_true hlt), if_pos hlt, put_l0 p s hs m (i + 1) f (by omega) (by omega), hta, List.append_assoc, List.singleton_append]
      · rw [if_neg (by rw [decide_eq_true_eq]; exact hlt), if_neg hlt, if_pos (by omega), Option.bind_some, Int.toNat_natCast, if_pos (by simp only [List.length_nil]; omega), Option.bind_some, List.nil_append, if_pos (by omega), Option.bind_some]
        by_cases heq : kOf (rd_T41 s (i : Int)) = kOf p
        · rw [if_pos (show (rd_T41 s (i : Int)).f0.data.toList = p.f0.data.toList from heq), if_pos heq, if_pos (by omega), if_pos (by omega), Option.bind_some, Int.toNat_natCast, if_pos (by rw [List.length_append, List.length_singleton]; omega), List.append_assoc, List.singleton_append]
        · rw [if_neg (show ¬ (rd_T41 s (i : Int)).f0.data.toList = p.f0.data.toList from heq), if_neg heq, Option.bind_some, if_pos (by rw [List.length_append, List.length_singleton]; omega), List.append_assoc, List.singleton_append, hd]
theorem Rput_eq (p : S41) (s : List S41) (hs : s.length ≤ 1000000000) (f : Nat) (hf : s.length + 1 ≤ f) : mudlarkref03_put.f f s p.f0 p.f1 = some (putL p s) := by
  unfold mudlarkref03_put.f
  have := put_l0 p s hs s.length 0 f (by omega) hf
  rw [show ((0 : Nat) : Int) = 0 from rfl] at this
  rw [this, List.take_zero, List.drop_zero, List.nil_append]
theorem lt_of_not {a b : List UInt8} (h1 : ¬ a < b) (h2 : a ≠ b) : b < a := by
  rcases Decidable.em (b < a) with h | h
  · exact h
  · exact (h2 (List.le_antisymm h h1)).elim
theorem putL_facts (p : S41) : ∀ s : List S41, Rising s → Rising (putL p s) ∧ (∀ q ∈ putL p s, q = p ∨ q ∈ s) ∧ ∀ k, lastV k (putL p s) = if kOf p = k then vOf p else lastV k s
  | [], _ => ⟨List.pairwise_singleton _ _, fun q hq => .inl (List.mem_singleton.1 hq), fun k => rfl⟩
  | q :: t, h => by
    obtain ⟨h1, h2⟩ := List.pairwise_cons.1 h
    obtain ⟨i1, i2, i3⟩ := putL_facts p t h2
    rw [putL]
    by_cases hlt : kOf q < kOf p
    · rw [if_pos hlt]
      have hall : ∀ x ∈ putL p t, kOf q < kOf x := fun x hx => (i2 x hx).elim (fun e => by rw [e]; exact hlt) (h1 x)
      refine ⟨List.pairwise_cons.2 ⟨hall, i1⟩, fun x hx => ?_, fun k => ?_⟩
      · rcases List.mem_cons.1 hx with rfl | hx
        · exact .inr (List.mem_cons_self ..)
        · exact (i2 x hx).imp id (List.mem_cons_of_mem _)
      · rw [lastV_cons k q _ hall, i3 k, lastV_cons k q t h1]
        by_cases hk : kOf q = k
        · rw [if_pos hk, if_pos hk, if_neg (fun e => lt_ne hlt (hk.trans e.symm))]
        · rw [if_neg hk, if_neg hk]
    · rw [if_neg hlt]
      by_cases heq : kOf q = kOf p
      · rw [if_pos heq]
        have hall : ∀ x ∈ t, kOf p < kOf x := fun x hx => by rw [← heq]; exact h1 x hx
        refine ⟨List.pairwise_cons.2 ⟨hall, h2⟩, fun x hx => ?_, fun k => ?_⟩
        · rcases List.mem_cons.1 hx with rfl | hx
          · exact .inl rfl
          · exact .inr (List.mem_cons_of_mem _ hx)
        · rw [lastV_cons k p t hall, lastV_cons k q t h1]
          by_cases hk : kOf p = k
          · rw [if_pos hk, if_pos hk]
          · rw [if_neg hk, if_neg hk, if_neg (fun e => hk (heq.symm.trans e))]
      · rw [if_neg heq]
        have hpq := lt_of_not hlt heq
        have hall : ∀ x ∈ q :: t, kOf p < kOf x := fun x hx => (List.mem_cons.1 hx).elim (fun e => by rw [e]; exact hpq) (fun hx => List.lt_trans hpq (h1 x hx))
        refine ⟨List.pairwise_cons.2 ⟨hall, h⟩, fun x hx => List.mem_cons.1 hx, fun k => lastV_cons k p _ hall⟩
/-- All, put one by one. -/
def putsL (acc l : List S41) : List S41 := l.foldl (fun s p => putL p s) acc
theorem putsL_facts : ∀ (l acc : List S41), Rising acc → Rising (putsL acc l) ∧ (∀ k, lastV k (putsL acc l) = l.foldl (fun v p => if kOf p = k then vOf p else v) (lastV k acc)) ∧ (putsL acc l).length ≤ acc.length + l.length
  | [], acc, h => ⟨h, fun k => rfl, by simp [putsL]⟩
  | p :: l, acc, h => by
    obtain ⟨a1, _, a3⟩ := putL_facts p acc h
    obtain ⟨b1, b2, b3⟩ := putsL_facts l (putL p acc) a1
    have hl := putL_len p acc
    refine ⟨b1, fun k => ?_, ?_⟩
    · rw [List.foldl_cons, ← a3 k]
      exact b2 k
    · have : (putsL acc (p :: l)).length = (putsL (putL p acc) l).length := rfl
      rw [this, List.length_cons]
      omega
def hasV (p : S41) : Bool := !(decide (vOf p = []))
theorem filter_facts : ∀ s : List S41, Rising s → ∀ k, lastV k (s.filter hasV) = lastV k s
  | [], _, k => rfl
  | p :: s, h, k => by
    obtain ⟨h1, h2⟩ := List.pairwise_cons.1 h
    have ih := filter_facts s h2 k
    have hall : ∀ x ∈ s.filter hasV, kOf p < kOf x := fun x hx => h1 x (List.mem_filter.1 hx).1
    rw [lastV_cons k p s h1]
    by_cases hv : vOf p = []
    · rw [List.filter_cons_of_neg (by unfold hasV; rw [hv]; simp), ih]
      by_cases hk : kOf p = k
      · rw [if_pos hk, hv]
        exact lastV_none k s (fun x hx e => lt_ne (h1 x hx) (hk.trans e.symm)) []
      · rw [if_neg hk]
    · rw [List.filter_cons_of_pos (by unfold hasV; simp [hv]), lastV_cons k p _ hall, ih]
theorem puts_merge (l : List S41) : (putsL [] l).filter hasV = mergeL l := by
  obtain ⟨a, b, _⟩ := putsL_facts l [] List.Pairwise.nil
  refine (merge_of l _ (List.Pairwise.filter _ a) (fun p hp => ?_) (fun k => ?_)).symm
  · have := (List.mem_filter.1 hp).2
    unfold hasV at this
    simpa using this
  · rw [filter_facts _ a k, b k]
    rfl
theorem rm_l2 (s : List S41) (hs : s.length ≤ 1000000000) : ∀ (m i f : Nat) (acc : List S41), i + m = s.length → acc.length + m ≤ 2000000000 → m + 1 ≤ f → mudlarkref03_Merge.l2 f s acc (i : Int) = some (acc ++ (s.drop i).filter hasV)
  | m, i, 0, acc, h1, h3, h2 => (by omega : False).elim
  | m, i, f + 1, acc, h1, h3, h2 => by
    rw [mudlarkref03_Merge.l2]
    cases m with
    | zero => rw [if_neg (by omega), List.drop_eq_nil_of_le (by omega), List.filter_nil, List.append_nil]
    | succ m =>
      have hi : i < s.length := by omega
      have hd : s.drop i = rd_T41 s (i : Int) :: s.drop (i + 1) := by rw [rd_some s i hi, List.drop_eq_getElem_cons hi]
      rw [if_pos (by omega), if_pos (by omega), Lib.toList_data, next_i i (by omega), hd]
      by_cases hv : vOf (rd_T41 s (i : Int)) = []
      · rw [if_pos (show (rd_T41 s (i : Int)).f1.data.toList = [] from hv), rm_l2 s hs m (i + 1) f acc (by omega) (by omega) (by omega), List.filter_cons_of_neg (by unfold hasV; rw [hv]; simp)]
      · rw [if_neg (show ¬ (rd_T41 s (i : Int)).f1.data.toList = [] from hv), if_pos (by omega), rm_l2 s hs m (i + 1) f _ (by omega) (by rw [List.length_append, List.length_singleton]; omega) (by omega), List.filter_cons_of_pos (by unfold hasV; simp [hv]), List.append_assoc, List.singleton_append]
theorem rm_l1 (b : List S41) (hb : b.length ≤ 1000000000) : ∀ (m i f : Nat) (acc : List S41), i + m = b.length → acc.length + m ≤ 1000000000 → acc.length + 2 * m + 5 ≤ f → mudlarkref03_Merge.l1 f b acc (i : Int) = some ((putsL acc (b.drop i)).filter hasV)
  | m, i, 0, acc, h1, h3, h2 => (by omega : False).elim
  | m, i, f + 1, acc, h1, h3, h2 => by
    rw [mudlarkref03_Merge.l1]
    cases m with
    | zero =>
      have := rm_l2 acc (by omega) acc.length 0 f [] (by omega) (by rw [List.length_nil]; omega) (by omega)
      rw [show ((0 : Nat) : Int) = 0 from rfl] at this
      rw [if_neg (by omega), this, List.drop_zero, List.nil_append, show b.drop i = [] from List.drop_eq_nil_of_le (by omega)]
      rfl
    | succ m =>
      have hi : i < b.length := by omega
      have hd : b.drop i = rd_T41 b (i : Int) :: b.drop (i + 1) := by rw [rd_some b i hi, List.drop_eq_getElem_cons hi]
      have hl := putL_len (rd_T41 b (i : Int)) acc
      rw [if_pos (by omega), if_pos (by omega), Rput_eq _ acc (by omega) f (by omega), Option.bind_some, next_i i (by omega), rm_l1 b hb m (i + 1) f _ (by omega) (by omega) (by omega), hd]
      rfl
theorem rm_l0 (a b : List S41) (ha : a.length ≤ 100000000) (hb : b.length ≤ 100000000) : ∀ (m i f : Nat) (acc : List S41), i + m = a.length → acc.length + m ≤ 200000000 → acc.length + 2 * m + 2 * b.length + 10 ≤ f → mudlarkref03_Merge.l0 f a b acc (i : Int) = some ((putsL acc (a.drop i ++ b)).filter hasV)
  | m, i, 0, acc, h1, h3, h2 => (by omega : False).elim
  | m, i, f + 1, acc, h1, h3, h2 => by
    rw [mudlarkref03_Merge.l0]
    cases m with
    | zero =>
      have := rm_l1 b (by omega) b.length 0 f acc (by omega) (by omega) (by omega)
      rw [show ((0 : Nat) : Int) = 0 from rfl] at this
      rw [if_neg (by omega), this, List.drop_zero, show a.drop i = [] from List.drop_eq_nil_of_le (by omega), List.nil_append]
    | succ m =>
      have hi : i < a.length := by omega
      have hd : a.drop i = rd_T41 a (i : Int) :: a.drop (i + 1) := by rw [rd_some a i hi, List.drop_eq_getElem_cons hi]
      have hl := putL_len (rd_T41 a (i : Int)) acc
      rw [if_pos (by omega), if_pos (by omega), Rput_eq _ acc (by omega) f (by omega), Option.bind_some, next_i i (by omega), rm_l0 a b ha hb m (i + 1) f _ (by omega) (by omega) (by omega), hd]
      rfl
theorem RMerge_eq (a b : List S41) (ha : a.length ≤ 10000000) (hb : b.length ≤ 10000000) (f : Nat) (hf : 2 * a.length + 2 * b.length + 10 ≤ f) : mudlarkref03_Merge.f f a b = some (mergeL (a ++ b)) := by
  unfold mudlarkref03_Merge.f
  have := rm_l0 a b (by omega) (by omega) a.length 0 f [] (by omega) (by rw [List.length_nil]; omega) (by rw [List.length_nil]; omega)
  rw [show ((0 : Nat) : Int) = 0 from rfl] at this
  rw [this, List.drop_zero, puts_merge]
end Go.Proofs.YtcbeehchhhoeeaaDoor.P

/-! ### HRecs -/
namespace Go.Proofs.YtcbeehchhhoeeaaDoor.P
open Go Go.RowKit Go.ChangeShapes Go.WideShapes Go.Deep Go.Proofs.YtcbeehchhhoeeaaDoorW.PrintWords
section
variable {H : Type} {enc : TypeId × Value → H} {w : World} {base : Nat} {spare : Nat → Bool} {held : Bool}
def strOf : Value → ByteArray
  | .string x => x
  | _ => ByteArray.empty
/-- How many letters records have. -/
def recsBulk (l : List S41) : Nat := (l.map fun p => p.f0.size + p.f1.size + 3).sum
/-- What is read of records. -/
def RecsRow (w : World) (a : Option Addr) (len cap : Nat) (zs : List S41) : Prop :=
  zs.length = len ∧ len ≤ cap ∧ Kd.C k41 w a len zs
theorem bulk_le {H : Type} (D0 D1 : Nat → DataW H) (S0 S1 : Nat → ByteArray) : ∀ l : List Nat, (∀ i ∈ l, D0 i = .lit (.string (S0 i).data.toList) ∧ D1 i = .lit (.string (S1 i).data.toList)) →
    recsBulk (l.map fun i => (⟨S0 i, S1 i⟩ : S41)) ≤ Rows.uptoBulkAll (l.map fun i => DataW.agg [D0 i, D1 i])
  | [], _ => by simp [recsBulk]
  | i :: l, h => by
    have ih := bulk_le D0 D1 S0 S1 l (fun j hj => h j (by simp [hj]))
    obtain ⟨e0, e1⟩ := h i (by simp)
    have s0 : (S0 i).size = (S0 i).data.toList.length := by rw [Array.length_toList]; rfl
    have s1 : (S1 i).size = (S1 i).data.toList.length := by rw [Array.length_toList]; rfl
    unfold recsBulk at ih ⊢
    rw [List.map_cons, List.map_cons, List.sum_cons, List.map_cons, Rows.uptoBulkAll, e0, e1]
    simp only [Rows.uptoBulk, Rows.uptoBulkAll]
    omega
set_option maxRecDepth 100000 in
theorem open_recs {a : Option Addr} {len cap : Nat} {d : DataW H} {p : List MemPlace} (h : DataW.Trod enc Tryd.prog w base spare held 23 (.slice a len cap) d p) :
    ∃ zs : List S41, RecsRow w a len cap zs ∧ recsBulk zs ≤ Rows.uptoBulk d := by
  obtain ⟨fuel, hf⟩ := h
  rcases open_slice_pairs Tryd.underlying23 Tryd.underlying41 (by kernel_rfl) rfl rfl (by kernel_rfl) (by kernel_rfl) hf with ⟨hcs, _⟩ | ⟨a', l, c, m, n, V0, V1, D0, D1, P0, P1, hcs, _, hl, hm, hmm, hxx, hx⟩
  · simp [Value.cells] at hcs
    obtain ⟨rfl, rfl, rfl⟩ := hcs
    exact ⟨[], ⟨rfl, Nat.le_refl _, ⟨rfl, by omega, fun h => absurd h (by omega)⟩⟩, Nat.zero_le _⟩
  · simp [Value.cells] at hcs
    obtain ⟨rfl, rfl, rfl⟩ := hcs
    have hlm : len ≤ m := by rw [hmm]; split <;> omega
    have each : ∀ i, i < len → V0 i = .string (strOf (V0 i)) ∧ V1 i = .string (strOf (V1 i)) ∧ D0 i = .lit (.string (strOf (V0 i)).data.toList) ∧ D1 i = .lit (.string (strOf (V1 i)).data.toList) := by
      intro i hi
      obtain ⟨_, _, g0, g1⟩ := hx i (by omega)
      obtain ⟨x, e0, f0, _⟩ := DataW.trod_string Tryd.underlying9 g0
      obtain ⟨y, e1, f1, _⟩ := DataW.trod_string Tryd.underlying9 g1
      have e0' : V0 i = .string x := by simpa using e0
      have e1' : V1 i = .string y := by simpa using e1
      rw [e0', e1']
      exact ⟨rfl, rfl, (Prod.mk.inj f0).1, (Prod.mk.inj f1).1⟩
    refine ⟨(List.range len).map (fun i => ⟨strOf (V0 i), strOf (V1 i)⟩), ⟨by simp, hl, ⟨by simp, by unfold maxLen at hm; omega, fun _ => ⟨a', rfl, fun j q hj => ?_⟩⟩⟩, ?_⟩
    · rw [List.getElem?_map] at hj
      obtain ⟨i, hi, rfl⟩ := Option.map_eq_some_iff.1 hj
      obtain ⟨hil, hie⟩ := List.getElem?_eq_some_iff.1 hi
      rw [List.getElem_range] at hie
      subst hie
      rw [List.length_range] at hil
      obtain ⟨c0, c1, _, _⟩ := hx j (by omega)
      obtain ⟨v0, v1, _, _⟩ := each j hil
      refine ⟨[.string (strOf (V0 j)), .string (strOf (V1 j))], rfl, k41_mk w _, fun i u hu => ?_⟩
      match i, hu with
      | 0, hu =>
        obtain rfl := Option.some.inj hu
        rw [← v0]
        exact c0
      | 1, hu =>
        obtain rfl := Option.some.inj hu
        rw [← v1]
        exact c1
    · have hd := (Prod.mk.inj hxx).1
      rw [hd]
      have hb := bulk_le D0 D1 (fun i => strOf (V0 i)) (fun i => strOf (V1 i)) (List.range len) (fun i hi => ⟨(each i (List.mem_range.1 hi)).2.2.1, (each i (List.mem_range.1 hi)).2.2.2⟩)
      simp only [Rows.uptoBulk]
      omega
end
end Go.Proofs.YtcbeehchhhoeeaaDoor.P

/-! ### HMergesW -/
namespace Go.Proofs.YtcbeehchhhoeeaaDoor.P
open Go Go.RowKit Go.Proofs.YtcbeehchhhoeeaaDoorW.PrintWords Go.Proofs.YtcbeehchhhoeeaaDoorW.PrintLast Go.Proofs.YtcbeehchhhoeeaaDoorW.PrintMore
def mudlarklaw03_PaxMerges.Pure : Prop := ∀ (l0 l1 : List S41) (l2 l3 : List Int) (a4 : ByteArray), recsBulk l0 ≤ 1048576 → recsBulk l1 ≤ 1048576 → l2.length ≤ maxLen → l2.length * 1 ≤ 140737488351232 → (∀ x ∈ l2, (Lit.int .u8 x).wf = true) → l3.length ≤ maxLen → l3.length * 1 ≤ 140737488351232 → (∀ x ∈ l3, (Lit.int .u8 x).wf = true) → a4.size ≤ 140737488351232 → ∃ k, mudlarklaw03_PaxMerges.f k l0 l1 l2 l3 a4 = some true
theorem mudlarklaw03_PaxMerges.walk (P : mudlarklaw03_PaxMerges.Pure) (a0 : Option Addr) (len0 cap0 : Nat) (z0 : List S41) (a1 : Option Addr) (len1 cap1 : Nat) (z1 : List S41) (a2 : Option Addr) (len2 cap2 : Nat) (z2 : List Int) (a3 : Option Addr) (len3 cap3 : Nat) (z3 : List Int) (a4 : ByteArray) (w : World)
    (w0 : RecsRow w a0 len0 cap0 z0) (g0 : recsBulk z0 ≤ 1048576) (w1 : RecsRow w a1 len1 cap1 z1) (g1 : recsBulk z1 ≤ 1048576)
    (w2 : (a2 = none ∧ len2 = 0 ∧ cap2 = 0 ∧ z2 = []) ∨ ∃ x, a2 = some x ∧ len2 ≤ cap2 ∧ cap2 ≤ maxLen ∧ z2.length = cap2 ∧ (∀ i, i < z2.length → w.cell? (x.add i) = some (.int .u8 (z2.getD i 0))) ∧ ∀ n ∈ z2, (Lit.int .u8 n).wf = true) (y2 : len2 * 1 ≤ 140737488351232)
    (w3 : (a3 = none ∧ len3 = 0 ∧ cap3 = 0 ∧ z3 = []) ∨ ∃ x, a3 = some x ∧ len3 ≤ cap3 ∧ cap3 ≤ maxLen ∧ z3.length = cap3 ∧ (∀ i, i < z3.length → w.cell? (x.add i) = some (.int .u8 (z3.getD i 0))) ∧ ∀ n ∈ z3, (Lit.int .u8 n).wf = true) (y3 : len3 * 1 ≤ 140737488351232) (w4 : a4.size ≤ 140737488351232) (HT_ : Tabs w) :
    Calls Tryd.prog 9 #[.slice a0 len0 cap0, .slice a1 len1 cap1, .slice a2 len2 cap2, .slice a3 len3 cap3, .string a4] w fun e w' => e = .returned (.bool true) ∧ Below w.heap.size w w' := by
  obtain ⟨rfl, hc0, hr0⟩ := w0
  obtain ⟨rfl, hc1, hr1⟩ := w1
  obtain ⟨l2, rfl, hr2, hm2, hw2, hc2⟩ := ReadsInt.ofRowC w2
  obtain ⟨l3, rfl, hr3, hm3, hw3, hc3⟩ := ReadsInt.ofRowC w3
  obtain ⟨k, h⟩ := P z0 z1 l2 l3 a4 g0 g1 hm2 y2 hw2 hm3 y3 hw3 w4
  refine (mudlarklaw03_PaxMerges.calls k _ _ z0 _ _ z1 _ _ l2 _ _ l3 a4 true w hr0 hc0 hr1 hc1 (Kd.C_of_reads (d := (0 : Int)) (h1 := fun _ => rfl) hr2) hc2 (Kd.C_of_reads (d := (0 : Int)) (h1 := fun _ => rfl) hr3) hc3 h HT_).mono ?_
  rintro e w' ⟨rfl, hd⟩
  exact ⟨rfl, hd⟩
end Go.Proofs.YtcbeehchhhoeeaaDoor.P

/-! ### PaxMergesPure -/
namespace Go.Proofs.YtcbeehchhhoeeaaDoor.Pure
open Go Go.RowKit Go.Lib Go.Proofs.YtcbeehchhhoeeaaDoor.P Go.Proofs.YtcbeehchhhoeeaaDoorW.PrintWords Go.Proofs.YtcbeehchhhoeeaaDoorW.PrintLast Go.Proofs.YtcbeehchhhoeeaaDoorW.PrintMore
set_option linter.unusedVariables false
set_option linter.unusedSimpArgs false

theorem bulk_cons (p : S41) (l : List S41) : recsBulk (p :: l) = p.f0.size + p.f1.size + 3 + recsBulk l := by unfold recsBulk; rw [List.map_cons, List.sum_cons]
theorem bulk_len : ∀ l : List S41, 3 * l.length ≤ recsBulk l
  | [] => by simp [recsBulk]
  | p :: l => by have := bulk_len l; rw [bulk_cons, List.length_cons]; omega
theorem bulk_each : ∀ (l : List S41) (p : S41), p ∈ l → p.f0.size + p.f1.size ≤ recsBulk l
  | [], p, h => by cases h
  | q :: l, p, h => by
    rw [bulk_cons]
    rcases List.mem_cons.1 h with rfl | h
    · omega
    · have := bulk_each l p h; omega
theorem bulk_drop (l : List S41) (i : Nat) (h : i < l.length) : recsBulk (l.drop i) = (rd_T41 l (i : Int)).f0.size + (rd_T41 l (i : Int)).f1.size + 3 + recsBulk (l.drop (i + 1)) := by
  rw [List.drop_eq_getElem_cons h, bulk_cons, rd_some l i h]
theorem much_l0 (l : List S41) (hl : l.length ≤ 2000000) : ∀ (m i n f : Nat), i + m = l.length → n + recsBulk (l.drop i) ≤ 4000000 → m + 1 ≤ f → ∃ b, mudlarklaw03_much.l0 f l (n : Int) (i : Int) = some b
  | m, i, n, 0, h1, h2, h3 => (by omega : False).elim
  | m, i, n, f + 1, h1, h2, h3 => by
    rw [mudlarklaw03_much.l0]
    cases m with
    | zero => rw [if_neg (by omega)]; exact ⟨_, rfl⟩
    | succ m =>
      have hi : i < l.length := by omega
      have hb := bulk_drop l i hi
      rw [if_pos (by omega), if_pos (by omega), next_i i (by omega), wrap64_id (((rd_T41 l (i : Int)).f0.size : Int) + ((rd_T41 l (i : Int)).f1.size : Int)) (by omega) (by omega), wrap64_id _ (by omega) (by omega), show (n : Int) + (((rd_T41 l (i : Int)).f0.size : Int) + ((rd_T41 l (i : Int)).f1.size : Int)) = ((n + ((rd_T41 l (i : Int)).f0.size + (rd_T41 l (i : Int)).f1.size) : Nat) : Int) by omega]
      exact much_l0 l hl m (i + 1) _ f (by omega) (by omega) (by omega)
theorem much_ok (l : List S41) (h : recsBulk l ≤ 1048576) (f : Nat) (hf : 2000000 ≤ f) : ∃ b, mudlarklaw03_much.f f l = some b := by
  have hlen := bulk_len l
  obtain ⟨b, hb⟩ := much_l0 l (by omega) l.length 0 l.length f (by omega) (by rw [List.drop_zero]; omega) (by omega)
  unfold mudlarklaw03_much.f
  rw [show ((0 : Nat) : Int) = 0 from rfl] at hb
  exact ⟨b, hb⟩
theorem sized_merge (l m : List S41) (h : ∀ p ∈ l ++ m, p.f0.size ≤ 9223372036854775807 ∧ p.f1.size ≤ 9223372036854775807) (hl : (l ++ m).length ≤ 4000000000) : pax_Merge.f l m = some (mergeL (l ++ m)) := by
  have hall : (l ++ m).all (fun p => decide (p.f0.size ≤ 9223372036854775807) && decide (p.f1.size ≤ 9223372036854775807)) = true := by
    rw [List.all_eq_true]
    intro p hp
    obtain ⟨a, b⟩ := h p hp
    rw [Bool.and_eq_true, decide_eq_true_iff, decide_eq_true_iff]
    exact ⟨a, b⟩
  rw [List.length_append] at hl
  unfold pax_Merge.f
  rw [if_pos ⟨by omega, hall⟩]
theorem merges_eq (l m : List S41) (key : ByteArray) (h : ∀ p ∈ l ++ m, p.f0.size ≤ 9223372036854775807 ∧ p.f1.size ≤ 9223372036854775807) (hl : l.length ≤ 1000000) (hm : m.length ≤ 1000000) (f : Nat) (hf : 5000000 ≤ f) : mudlarklaw03_merges.f f l m key = some true := by
  have hlen : (l ++ m).length = l.length + m.length := List.length_append
  have hml := (merge_facts (l ++ m)).2.2.2.2
  unfold mudlarklaw03_merges.f
  rw [show pax_Find.f l key = some (findL key l.reverse) from rfl, Option.bind_some, RFind_eq l key (by omega) f (by omega), Option.bind_some, if_pos rfl, if_pos (by rw [beq_self_eq_true]), sized_merge l m h (by omega), Option.bind_some, RMerge_eq l m (by omega) (by omega) f (by omega), Option.bind_some, Same_self _ (by omega) f (by omega), Option.bind_some]
theorem PaxMerges : mudlarklaw03_PaxMerges.Pure := by
  intro l m c d key hu hv hcl hcs hc hdl hds hd hk
  refine ⟨8000000, ?_⟩
  have hlen := bulk_len l
  have hmen := bulk_len m
  obtain ⟨b1, hb1⟩ := much_ok l hu 8000000 (by omega)
  obtain ⟨b2, hb2⟩ := much_ok m hv 8000000 (by omega)
  have hR := Recs_eq c hc (by omega) 8 (by omega) 7999999 (by omega)
  have hS := Recs_eq d hd (by omega) 8 (by omega) 7999999 (by omega)
  rw [show ((8 : Nat) : Int) = 8 from rfl] at hR hS
  obtain ⟨h1, h2⟩ := recsL_small c 8
  obtain ⟨h3, h4⟩ := recsL_small d 8
  have hj : mudlarklaw03_PaxMerges.j0 8000000 l m c d key true = some true := by
    rw [show (8000000 : Nat) = 7999999 + 1 from rfl, mudlarklaw03_PaxMerges.j0, if_pos rfl]; rfl
  unfold mudlarklaw03_PaxMerges.f
  rw [hb1, Option.bind_some]
  cases b1 with
  | true => rw [if_pos rfl, hj]
  | false =>
    rw [if_neg (by simp), hb2, Option.bind_some]
    cases b2 with
    | true => rw [if_pos rfl, hj]
    | false =>
      have p1 : mudlarklaw03_merges.f 7999999 l m key = some true := merges_eq l m key (fun p hp => by
        rcases List.mem_append.1 hp with hp | hp
        · have := bulk_each l p hp; omega
        · have := bulk_each m p hp; omega) (by omega) (by omega) 7999999 (by omega)
      have p2 : mudlarklaw03_merges.f 7999999 (recsL c 8) (recsL d 8) (⟨#[112, 97, 116, 104]⟩ : ByteArray) = some true := merges_eq _ _ _ (fun p hp => by
        have hs : SmallRec p := (List.mem_append.1 hp).elim (h2 p) (h4 p)
        obtain ⟨_, a, b⟩ := hs
        rw [size_len, size_len]
        omega) (by omega) (by omega) 7999999 (by omega)
      rw [if_neg (by simp), show mudlarklaw03_known.f = some true from rfl, Option.bind_some, show (8000000 : Nat) = 7999999 + 1 from rfl, mudlarklaw03_PaxMerges.j0, if_neg (by simp), p1, Option.bind_some, if_pos rfl, hR, Option.bind_some, hS, Option.bind_some, p2, Option.bind_some]
end Go.Proofs.YtcbeehchhhoeeaaDoor.Pure

