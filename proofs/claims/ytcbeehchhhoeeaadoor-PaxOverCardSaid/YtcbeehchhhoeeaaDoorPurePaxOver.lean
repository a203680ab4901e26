/- The statement PaxOver, in lists and numbers. No conditions. -/
import Derived.Test.YtcbeehchhhoeeaaDoorHPaxV
import Derived.Test.YtcbeehchhhoeeaaDoorPx7
import Derived.Test.YtcbeehchhhoeeaaDoorHMerge
import Derived.Test.YtcbeehchhhoeeaaDoorHPKnown
import Derived.Test.YtcbeehchhhoeeaaDoorHTabEL
import Derived.Test.YtcbeehchhhoeeaaDoorPx14
import Derived.Sort.Walk0
/-! ### HPaxS -/
namespace Go.Proofs.YtcbeehchhhoeeaaDoor.P
open Go Go.RowKit Go.Lib Go.Proofs Go.Proofs.YtcbeehchhhoeeaaDoorW.PrintWords Go.Proofs.YtcbeehchhhoeeaaDoorW.PrintLast Go.Proofs.YtcbeehchhhoeeaaDoorW.PrintMore
set_option linter.unusedVariables false
set_option linter.unusedSimpArgs false

theorem same_l0 (l : List S41) (hl : l.length ≤ 1000000000000) : ∀ (m i f : Nat), i + m = l.length → m + 1 ≤ f → mudlarkref03_Same.l0 f l l (i : Int) = some true
  | m, i, 0, h1, h2 => (by omega : False).elim
  | m, i, f + 1, h1, h2 => by
    rw [mudlarkref03_Same.l0]
    cases m with
    | zero => rw [if_neg (by omega)]
    | succ m =>
      rw [if_pos (by omega), if_pos (by omega), if_pos (by omega), if_neg (by rw [beq_self_eq_true, beq_self_eq_true]; simp), next_i i (by omega)]
      exact same_l0 l hl m (i + 1) f (by omega) (by omega)
theorem Same_self (l : List S41) (hl : l.length ≤ 1000000000000) (k : Nat) (hk : l.length + 1 ≤ k) : mudlarkref03_Same.f k l l = some true := by
  unfold mudlarkref03_Same.f
  rw [if_pos rfl]
  exact same_l0 l hl l.length 0 k (by omega) hk
end Go.Proofs.YtcbeehchhhoeeaaDoor.P

/-! ### HPaxM -/
namespace Go.Proofs.YtcbeehchhhoeeaaDoor.P
open Go Go.RowKit Go.Lib Go.Maps Go.WideShapes Go.Proofs Go.Proofs.YtcbeehchhhoeeaaDoorW.PrintWords Go.Proofs.YtcbeehchhhoeeaaDoorW.PrintLast Go.Proofs.YtcbeehchhhoeeaaDoorW.PrintMore
set_option linter.unusedVariables false
set_option linter.unusedSimpArgs false

def kOf (p : S41) : List UInt8 := p.f0.data.toList
def vOf (p : S41) : List UInt8 := p.f1.data.toList
theorem rec_of (p : S41) : p = ⟨tx (kOf p), tx (vOf p)⟩ := by unfold kOf vOf; rw [tx_data, tx_data]
/-- The last value of a key; none: no bytes. -/
def lastV (k : List UInt8) (l : List S41) : List UInt8 := l.foldl (fun v p => if kOf p = k then vOf p else v) []
theorem lastV_snoc (k : List UInt8) (l : List S41) (p : S41) : lastV k (l ++ [p]) = if kOf p = k then vOf p else lastV k l := by unfold lastV; rw [List.foldl_append]; rfl
def StrK (D : DataW Unit) : Prop := ∀ es, D = .map es → ∀ p ∈ es, ∃ x, p.1 = .string x
theorem StrK.put {D : DataW Unit} (h : StrK D) (hm : IsMap D) (k : List UInt8) (d : DataW Unit) : StrK (D.put (.string k) d) := by
  obtain ⟨es, rfl⟩ := hm
  intro es' he p hp
  have e : es' = DataW.insert (.string k, d) (es.filter fun p => !p.1.sameKey (.string k)) := by injection he with he; exact he.symm
  rw [e] at hp
  rcases List.mem_cons.1 ((insert_perm (.string k, d) _).mem_iff.1 hp) with rfl | hp
  · exact ⟨k, rfl⟩
  · exact h es rfl p (List.mem_filter.1 hp).1
theorem valD_put {D : DataW Unit} (hm : IsMap D) (a v k : List UInt8) : valD (D.put (.string a) (.lit (.string v))) k = if a = k then v else valD D k := by
  unfold valD
  by_cases h : a = k
  · subst h
    rw [if_pos rfl, atKey_put_same hm (by trivial)]
  · rw [if_neg h, atKey_put_other (fun e => h (by injection e with e; exact e.symm))]
theorem fold_facts : ∀ (l : List S41) (m : DataW Unit), Tidy m → StrK m →
    Tidy (l.foldl (fun m p => m.put (.string p.f0.data.toList) (.lit (.string p.f1.data.toList))) m) ∧ StrK (l.foldl (fun m p => m.put (.string p.f0.data.toList) (.lit (.string p.f1.data.toList))) m) ∧
    (∀ k, has (l.foldl (fun m p => m.put (.string p.f0.data.toList) (.lit (.string p.f1.data.toList))) m) (.string k) = (has m (.string k) || l.any (fun p => kOf p == k))) ∧
    (∀ k, valD (l.foldl (fun m p => m.put (.string p.f0.data.toList) (.lit (.string p.f1.data.toList))) m) k = l.foldl (fun v p => if kOf p = k then vOf p else v) (valD m k)) ∧
    size (l.foldl (fun m p => m.put (.string p.f0.data.toList) (.lit (.string p.f1.data.toList))) m) ≤ size m + l.length
  | [], m, h1, h2 => ⟨h1, h2, fun k => by simp, fun k => rfl, by simp⟩
  | p :: l, m, h1, h2 => by
    obtain ⟨a, b, c, d, e⟩ := fold_facts l (m.put (.string p.f0.data.toList) (.lit (.string p.f1.data.toList))) (h1.put (by trivial) _) (h2.put h1.isMap _ _)
    refine ⟨a, b, fun k => ?_, fun k => ?_, ?_⟩
    · rw [List.foldl_cons, c k, List.any_cons]
      by_cases hk : kOf p = k
      · rw [show p.f0.data.toList = k from hk, has_put_same h1.isMap (by trivial), beq_iff_eq.2 hk]
        simp
      · rw [has_put_other (fun e => hk (by injection e with e; exact e.symm)), beq_eq_false_iff_ne.2 hk, Bool.false_or]
    · rw [List.foldl_cons, d k, valD_put h1.isMap, List.foldl_cons]
      rfl
    · rw [List.foldl_cons, List.length_cons]
      have := size_put (k := .string p.f0.data.toList) h1 (.lit (.string p.f1.data.toList))
      split at this <;> omega
theorem mapD_facts (l : List S41) : Tidy (mapD l) ∧ StrK (mapD l) ∧ (∀ k, has (mapD l) (.string k) = l.any (fun p => kOf p == k)) ∧ (∀ k, valD (mapD l) k = lastV k l) ∧ size (mapD l) ≤ l.length := by
  obtain ⟨a, b, c, d, e⟩ := fold_facts l (.map []) tidy_empty (fun es he p hp => by injection he with he; rw [← he] at hp; cases hp)
  refine ⟨a, b, fun k => c k, fun k => d k, ?_⟩
  have h0 : size (.map [] : DataW Unit) = 0 := rfl
  rw [h0, Nat.zero_add] at e
  exact e
/-- The sorted keys. -/
def keysS (l : List S41) : List (List UInt8) := (strKeys (mapD l)).mergeSort leB
theorem merge_eq (l : List S41) : mergeL l = (keysS l).flatMap fun k => if lastV k l = [] then [] else [⟨tx k, tx (lastV k l)⟩] := by
  unfold mergeL keepD keysS
  have h := (mapD_facts l).2.2.2.1
  simp only [h]
theorem leB_tr (a b c : List UInt8) (h1 : leB a b = true) (h2 : leB b c = true) : leB a c = true := by simp only [leB, decide_eq_true_eq] at *; exact List.le_trans h1 h2
theorem leB_to (a b : List UInt8) : (leB a b || leB b a) = true := by simp only [leB, Bool.or_eq_true, decide_eq_true_eq]; exact List.le_total a b
theorem keysS_facts (l : List S41) : (keysS l).Pairwise (fun a b => a < b) ∧ (∀ k, k ∈ keysS l ↔ ∃ p ∈ l, kOf p = k) ∧ (keysS l).length ≤ l.length := by
  obtain ⟨⟨es, hD, hp⟩, hs, hh, _, hz⟩ := mapD_facts l
  have hstr := hs es hD
  have hnd : (strKeys (mapD l)).Nodup := by
    rw [hD]
    show (es.map fun p => strOf p.1).Nodup
    refine List.pairwise_map.2 (hp.imp_of_mem fun {p q} hp' hq' hne e => hne ?_)
    obtain ⟨a, ha⟩ := hstr p hp'
    obtain ⟨b, hb⟩ := hstr q hq'
    rw [ha, hb] at e ⊢
    exact congrArg _ e
  have hmem : ∀ k, k ∈ strKeys (mapD l) ↔ ∃ p ∈ l, kOf p = k := by
    intro k
    have h1 := hh k
    rw [hD, has_eq] at h1
    have h2 : (es.any fun p => p.1.sameKey (.string k)) = true ↔ k ∈ es.map fun p => strOf p.1 := by
      rw [List.any_eq_true, List.mem_map]
      constructor
      · rintro ⟨q, hq, he⟩
        obtain ⟨x, hx⟩ := hstr q hq
        refine ⟨q, hq, ?_⟩
        rw [hx] at he ⊢
        exact beq_iff_eq.1 he
      · rintro ⟨q, hq, he⟩
        obtain ⟨x, hx⟩ := hstr q hq
        refine ⟨q, hq, ?_⟩
        rw [hx] at he ⊢
        exact beq_iff_eq.2 he
    rw [hD]
    show k ∈ es.map _ ↔ _
    rw [← h2, h1, List.any_eq_true]
    exact ⟨fun ⟨p, hp, he⟩ => ⟨p, hp, beq_iff_eq.1 he⟩, fun ⟨p, hp, he⟩ => ⟨p, hp, beq_iff_eq.2 he⟩⟩
  have hperm := List.mergeSort_perm (strKeys (mapD l)) leB
  refine ⟨?_, fun k => ?_, ?_⟩
  · have h1 := List.pairwise_mergeSort leB_tr leB_to (strKeys (mapD l))
    have h2 : ((strKeys (mapD l)).mergeSort leB).Nodup := hperm.nodup_iff.2 hnd
    refine (h1.and h2).imp (fun {a b} h => ?_)
    have hle : a ≤ b := by simpa [leB] using h.1
    rcases Decidable.em (a < b) with h3 | h3
    · exact h3
    · exact (h.2 (List.le_antisymm hle h3)).elim
  · unfold keysS
    rw [hperm.mem_iff, hmem]
  · unfold keysS
    rw [List.length_mergeSort]
    rw [hD] at hz ⊢
    simpa [strKeys, size] using hz
/-! ### Rows by rising keys -/
def Rising (s : List S41) : Prop := s.Pairwise (fun a b => kOf a < kOf b)
theorem lastV_none (k : List UInt8) : ∀ l : List S41, (∀ p ∈ l, kOf p ≠ k) → ∀ v, l.foldl (fun v p => if kOf p = k then vOf p else v) v = v
  | [], _, v => rfl
  | p :: l, h, v => by
    rw [List.foldl_cons, if_neg (h p (by simp))]
    exact lastV_none k l (fun q hq => h q (by simp [hq])) v
theorem lt_ne {a b : List UInt8} (h : a < b) : a ≠ b := fun e => by subst e; exact List.lt_irrefl a h
theorem lastV_cons (k : List UInt8) (p : S41) (s : List S41) (h : ∀ q ∈ s, kOf p < kOf q) : lastV k (p :: s) = if kOf p = k then vOf p else lastV k s := by
  unfold lastV
  rw [List.foldl_cons]
  by_cases hk : kOf p = k
  · rw [if_pos hk, if_pos hk]
    exact lastV_none k s (fun q hq e => lt_ne (h q hq) (hk.trans e.symm)) _
  · rw [if_neg hk, if_neg hk]
theorem lastV_mem (k : List UInt8) : ∀ (l : List S41) (v : List UInt8), (l.foldl (fun v p => if kOf p = k then vOf p else v) v = v ∧ ∀ p ∈ l, kOf p ≠ k) ∨ ∃ p ∈ l, kOf p = k ∧ l.foldl (fun v p => if kOf p = k then vOf p else v) v = vOf p
  | [], v => .inl ⟨rfl, by simp⟩
  | p :: l, v => by
    rw [List.foldl_cons]
    rcases lastV_mem k l (if kOf p = k then vOf p else v) with ⟨h1, h2⟩ | ⟨q, hq, h1, h2⟩
    · by_cases hk : kOf p = k
      · rw [if_pos hk] at h1 ⊢
        exact .inr ⟨p, by simp, hk, h1⟩
      · rw [if_neg hk] at h1 ⊢
        refine .inl ⟨h1, fun q hq => ?_⟩
        rcases List.mem_cons.1 hq with rfl | hq
        · exact hk
        · exact h2 q hq
    · exact .inr ⟨q, by simp [hq], h1, h2⟩
/-- Rows by rising keys, all with values, that tell the same, are one. -/
theorem rising_ext : ∀ (s t : List S41), Rising s → Rising t → (∀ p ∈ s, vOf p ≠ []) → (∀ p ∈ t, vOf p ≠ []) → (∀ k, lastV k s = lastV k t) → s = t
  | [], [], _, _, _, _, _ => rfl
  | [], q :: t, _, ht, _, h2, h => by
    have h3 := h (kOf q)
    rw [lastV_cons _ q t (List.pairwise_cons.1 ht).1, if_pos rfl] at h3
    exact (h2 q (by simp) h3.symm).elim
  | p :: s, [], hs, _, h1, _, h => by
    have h3 := h (kOf p)
    rw [lastV_cons _ p s (List.pairwise_cons.1 hs).1, if_pos rfl] at h3
    exact (h1 p (by simp) h3).elim
  | p :: s, q :: t, hs, ht, h1, h2, h => by
    obtain ⟨a1, a2⟩ := List.pairwise_cons.1 hs
    obtain ⟨b1, b2⟩ := List.pairwise_cons.1 ht
    have key : kOf p = kOf q := by
      have hp := h (kOf p)
      have hq := h (kOf q)
      rw [lastV_cons _ p s a1, lastV_cons _ q t b1, if_pos rfl] at hp
      rw [lastV_cons _ p s a1, lastV_cons _ q t b1, if_pos (rfl : kOf q = kOf q)] at hq
      rcases Decidable.em (kOf p = kOf q) with e | e
      · exact e
      · rw [if_neg (fun x => e x.symm)] at hp
        rw [if_neg e] at hq
        rcases lastV_mem (kOf p) t [] with ⟨x, _⟩ | ⟨y, hy, hk, _⟩
        · exact (h1 p (by simp) (hp.trans x)).elim
        · rcases lastV_mem (kOf q) s [] with ⟨x, _⟩ | ⟨z, hz, hk2, _⟩
          · exact (h2 q (by simp) (hq.symm.trans x)).elim
          · have c1 := b1 y hy
            have c2 := a1 z hz
            rw [hk] at c1
            rw [hk2] at c2
            exact (List.lt_irrefl _ (List.lt_trans c1 c2)).elim
    have hv : vOf p = vOf q := by
      have hp := h (kOf p)
      rw [lastV_cons _ p s a1, lastV_cons _ q t b1, if_pos rfl, if_pos key.symm] at hp
      exact hp
    have hpq : p = q := by rw [rec_of p, rec_of q, key, hv]
    subst hpq
    rw [rising_ext s t a2 b2 (fun x hx => h1 x (by simp [hx])) (fun x hx => h2 x (by simp [hx])) (fun k => ?_)]
    have hk := h k
    rw [lastV_cons _ p s a1, lastV_cons _ p t b1] at hk
    by_cases e : kOf p = k
    · have n1 := lastV_none k s (fun x hx e2 => lt_ne (a1 x hx) (e.trans e2.symm)) []
      have n2 := lastV_none k t (fun x hx e2 => lt_ne (b1 x hx) (e.trans e2.symm)) []
      exact n1.trans n2.symm
    · rw [if_neg e, if_neg e] at hk
      exact hk
/-- A row out of keys that rise. -/
theorem flat_facts (V : List UInt8 → List UInt8) : ∀ ks : List (List UInt8), ks.Pairwise (fun a b => a < b) →
    Rising (ks.flatMap fun k => if V k = [] then [] else [(⟨tx k, tx (V k)⟩ : S41)]) ∧ (∀ p ∈ ks.flatMap fun k => if V k = [] then [] else [(⟨tx k, tx (V k)⟩ : S41)], vOf p ≠ [] ∧ kOf p ∈ ks) ∧
    ∀ k, lastV k (ks.flatMap fun k => if V k = [] then [] else [(⟨tx k, tx (V k)⟩ : S41)]) = if k ∈ ks then V k else []
  | [], _ => ⟨List.Pairwise.nil, by simp, fun k => rfl⟩
  | a :: ks, h => by
    obtain ⟨h1, h2⟩ := List.pairwise_cons.1 h
    obtain ⟨i1, i2, i3⟩ := flat_facts V ks h2
    rw [List.flatMap_cons]
    by_cases hv : V a = []
    · rw [if_pos hv, List.nil_append]
      refine ⟨i1, fun p hp => ⟨(i2 p hp).1, by simp [(i2 p hp).2]⟩, fun k => ?_⟩
      rw [i3 k]
      by_cases hk : k = a
      · subst hk
        rw [if_pos (List.mem_cons_self ..), hv]
        split <;> rfl
      · by_cases hm : k ∈ ks
        · rw [if_pos hm, if_pos (by simp [hm])]
        · rw [if_neg hm, if_neg (by simp [hk, hm])]
    · rw [if_neg hv, List.cons_append, List.nil_append]
      have hlt : ∀ q ∈ ks.flatMap fun k => if V k = [] then [] else [(⟨tx k, tx (V k)⟩ : S41)], kOf (⟨tx a, tx (V a)⟩ : S41) < kOf q := fun q hq => h1 _ (i2 q hq).2
      refine ⟨List.pairwise_cons.2 ⟨hlt, i1⟩, fun p hp => ?_, fun k => ?_⟩
      · rcases List.mem_cons.1 hp with rfl | hp
        · exact ⟨hv, List.mem_cons_self ..⟩
        · exact ⟨(i2 p hp).1, by simp [(i2 p hp).2]⟩
      · show lastV k ((⟨tx a, tx (V a)⟩ : S41) :: _) = _
        rw [lastV_cons k _ _ hlt, i3 k, show kOf (⟨tx a, tx (V a)⟩ : S41) = a from rfl, show vOf (⟨tx a, tx (V a)⟩ : S41) = V a from rfl]
        by_cases hk : a = k
        · subst hk
          rw [if_pos rfl, if_pos (List.mem_cons_self ..)]
        · rw [if_neg (fun e => hk e)]
          by_cases hm : k ∈ ks
          · rw [if_pos hm, if_pos (by simp [hm])]
          · rw [if_neg hm, if_neg (by simp [Ne.symm hk, hm])]
theorem merge_facts (l : List S41) : Rising (mergeL l) ∧ (∀ p ∈ mergeL l, vOf p ≠ []) ∧ (∀ k, lastV k (mergeL l) = lastV k l) ∧ (∀ p ∈ mergeL l, ∃ q ∈ l, kOf q = kOf p ∧ vOf p = lastV (kOf p) l) ∧ (mergeL l).length ≤ l.length := by
  obtain ⟨k1, k2, k3⟩ := keysS_facts l
  obtain ⟨f1, f2, f3⟩ := flat_facts (fun k => lastV k l) (keysS l) k1
  rw [merge_eq]
  refine ⟨f1, fun p hp => (f2 p hp).1, fun k => ?_, fun p hp => ?_, ?_⟩
  · rw [f3 k]
    by_cases hm : k ∈ keysS l
    · rw [if_pos hm]
    · rw [if_neg hm]
      exact (lastV_none k l (fun p hp e => hm ((k2 k).2 ⟨p, hp, e⟩)) []).symm
  · obtain ⟨q, hq, e⟩ := (k2 _).1 (f2 p hp).2
    refine ⟨q, hq, e, ?_⟩
    obtain ⟨k, hk, hpk⟩ := List.mem_flatMap.1 hp
    split at hpk
    · cases hpk
    · obtain rfl := List.mem_singleton.1 hpk
      rfl
  · refine Nat.le_trans ?_ k3
    have : ∀ ks : List (List UInt8), (ks.flatMap fun k => if lastV k l = [] then [] else [(⟨tx k, tx (lastV k l)⟩ : S41)]).length ≤ ks.length := by
      intro ks
      induction ks with
      | nil => simp
      | cons a ks ih =>
        rw [List.flatMap_cons, List.length_append, List.length_cons]
        split
        · rw [List.length_nil]; omega
        · rw [List.length_singleton]; omega
    exact this _
/-- What is merged is told by its last values. -/
theorem merge_of (l s : List S41) (h1 : Rising s) (h2 : ∀ p ∈ s, vOf p ≠ []) (h3 : ∀ k, lastV k s = lastV k l) : mergeL l = s := by
  obtain ⟨a, b, c, _⟩ := merge_facts l
  exact rising_ext _ _ a h1 b h2 (fun k => (c k).trans (h3 k).symm)
theorem lastV_app (k : List UInt8) (a b : List S41) : lastV k (a ++ b) = b.foldl (fun v p => if kOf p = k then vOf p else v) (lastV k a) := by unfold lastV; rw [List.foldl_append]
end Go.Proofs.YtcbeehchhhoeeaaDoor.P

/-! ### PaxOverPure -/
namespace Go.Proofs.YtcbeehchhhoeeaaDoor.Pure
open Go Go.RowKit Go.Lib Go.Proofs Go.Proofs.YtcbeehchhhoeeaaDoor.P Go.Proofs.YtcbeehchhhoeeaaDoorW.PrintWords Go.Proofs.YtcbeehchhhoeeaaDoorW.PrintLast Go.Proofs.YtcbeehchhhoeeaaDoorW.PrintMore
set_option linter.unusedVariables false
set_option linter.unusedSimpArgs false

theorem rd_some (l : List S41) (i : Nat) (h : i < l.length) : rd_T41 l (i : Int) = l[i] := by unfold rd_T41; rw [Int.toNat_natCast]; simp [List.getD, h]
theorem sized_merge (l m : List S41) (h : ∀ p ∈ l ++ m, p.f0.size ≤ 9223372036854775807 ∧ p.f1.size ≤ 9223372036854775807) (hl : (l ++ m).length ≤ 4000000000) : pax_Merge.f l m = some (mergeL (l ++ m)) := by
  have hall : (l ++ m).all (fun p => decide (p.f0.size ≤ 9223372036854775807) && decide (p.f1.size ≤ 9223372036854775807)) = true := by
    rw [List.all_eq_true]
    intro p hp
    obtain ⟨a, b⟩ := h p hp
    rw [Bool.and_eq_true, decide_eq_true_iff, decide_eq_true_iff]
    exact ⟨a, b⟩
  rw [List.length_append] at hl
  unfold pax_Merge.f
  rw [if_pos ⟨by omega, hall⟩]
theorem fold_same (k : List UInt8) : ∀ (o : List S41), (∃ p ∈ o, kOf p = k) → ∀ v v' : List UInt8, o.foldl (fun v p => if kOf p = k then vOf p else v) v = o.foldl (fun v p => if kOf p = k then vOf p else v) v'
  | [], ⟨p, hp, _⟩, _, _ => by cases hp
  | p :: o, ⟨q, hq, e⟩, v, v' => by
    rw [List.foldl_cons, List.foldl_cons]
    by_cases hk : kOf p = k
    · rw [if_pos hk, if_pos hk]
    · rw [if_neg hk, if_neg hk]
      refine fold_same k o ⟨q, ?_, e⟩ v v'
      rcases List.mem_cons.1 hq with rfl | hq
      · exact (hk e).elim
      · exact hq
theorem fold_twice (k : List UInt8) (o : List S41) (v : List UInt8) : o.foldl (fun v p => if kOf p = k then vOf p else v) (o.foldl (fun v p => if kOf p = k then vOf p else v) v) = o.foldl (fun v p => if kOf p = k then vOf p else v) v := by
  by_cases h : ∃ p ∈ o, kOf p = k
  · exact fold_same k o h _ _
  · have hn : ∀ p ∈ o, kOf p ≠ k := fun p hp e => h ⟨p, hp, e⟩
    rw [lastV_none k o hn, lastV_none k o hn]
theorem findL_last (key : ByteArray) : ∀ r : List S41, (findL key r).2 = true → (findL key r).1.data.toList = lastV key.data.toList r.reverse ∧ ∃ p ∈ r, kOf p = key.data.toList
  | [], h => by simp [findL] at h
  | p :: t, h => by
    rw [findL] at h ⊢
    rw [List.reverse_cons, lastV_snoc]
    by_cases hk : p.f0.toList = key.toList
    · have hk' : kOf p = key.data.toList := by rw [Lib.toList_data, Lib.toList_data] at hk; exact hk
      rw [if_pos hk, if_pos hk']
      exact ⟨rfl, p, List.mem_cons_self .., hk'⟩
    · have hk' : ¬ kOf p = key.data.toList := fun e => hk (by rw [Lib.toList_data, Lib.toList_data]; exact e)
      rw [if_neg hk] at h
      rw [if_neg hk, if_neg hk']
      obtain ⟨a, q, hq, e⟩ := findL_last key t h
      exact ⟨a, q, List.mem_cons_of_mem _ hq, e⟩
theorem over_l0 (o m : List S41) (hm : Rising m) (hv : ∀ p ∈ m, vOf p ≠ []) (ho : ∀ p ∈ m, (findL p.f0 o.reverse).2 = true → (findL p.f0 o.reverse).1.data.toList = vOf p) (M1 : pax_Merge.f m [] = some m) (M2 : pax_Merge.f [] m = some m) (M3 : pax_Merge.f m o = some m) (hlen : m.length ≤ 1000) :
    ∀ (r i f : Nat), i + r = m.length → r + m.length + 5 ≤ f → mudlarklaw03_PaxOver.l0 f o m (i : Int) = some true
  | r, i, 0, h1, h2 => (by omega : False).elim
  | r, i, f + 1, h1, h2 => by
    rw [mudlarklaw03_PaxOver.l0]
    cases r with
    | zero =>
      rw [if_neg (by omega), show mudlarklaw03_known.f = some true from rfl, Option.bind_some, if_pos rfl, M1, Option.bind_some, Same_self m (by omega) f (by omega), Option.bind_some, if_pos rfl, M2, Option.bind_some, Same_self m (by omega) f (by omega), Option.bind_some, if_pos rfl, M3, Option.bind_some, Same_self m (by omega) f (by omega), Option.bind_some]
    | succ r =>
      have hi : i < m.length := by omega
      have hp := rd_mem m i hi
      have hnv : ¬ (rd_T41 m (i : Int)).f1.toList = [] := by rw [Lib.toList_data]; exact hv _ hp
      have hin : (if (findL (rd_T41 m (i : Int)).f0 o.reverse).2 = true then (if (findL (rd_T41 m (i : Int)).f0 o.reverse).1.toList = (rd_T41 m (i : Int)).f1.toList then some true else some false) else some true) = some true := by
        split
        · rename_i hf
          rw [if_pos (by rw [Lib.toList_data, Lib.toList_data]; exact ho _ hp hf)]
        · rfl
      rw [if_pos (by omega), if_pos (by omega), show pax_Find.f o (rd_T41 m (i : Int)).f0 = some (findL (rd_T41 m (i : Int)).f0 o.reverse) from rfl, Option.bind_some, if_neg hnv, next_i i (by omega), over_l0 o m hm hv ho M1 M2 M3 hlen r (i + 1) f (by omega) (by omega)]
      cases i with
      | zero => rw [if_neg (by omega)]; exact hin
      | succ j =>
        have hlt : kOf (rd_T41 m (j : Int)) < kOf (rd_T41 m ((j + 1 : Nat) : Int)) := by
          rw [rd_some m j (by omega), rd_some m (j + 1) hi]
          exact List.pairwise_iff_getElem.1 hm j (j + 1) (by omega) hi (by omega)
        have hw : wrap64 (((j + 1 : Nat) : Int) - 1) = (j : Int) := by rw [wrap64_id _ (by omega) (by omega)]; omega
        rw [if_pos (by omega), hw, if_pos (by omega), if_pos (by omega), if_pos (by rw [bytesLess_eq, Lib.toList_data, Lib.toList_data, decide_eq_true_eq]; exact hlt)]
        exact hin
theorem PaxOver : mudlarklaw03_PaxOver.Pure := by
  intro c d hcl hcs hc hdl hds hd
  refine ⟨2000, ?_⟩
  have hR := Recs_eq c hc (by omega) 8 (by omega) 2000 (by omega)
  have hS := Recs_eq d hd (by omega) 8 (by omega) 2000 (by omega)
  rw [show ((8 : Nat) : Int) = 8 from rfl] at hR hS
  obtain ⟨a1, a2⟩ := recsL_small c 8
  obtain ⟨b1, b2⟩ := recsL_small d 8
  generalize recsL c 8 = l at hR a1 a2
  generalize recsL d 8 = o at hS b1 b2
  have hlo : ∀ p ∈ l ++ o, SmallRec p := fun p hp => (List.mem_append.1 hp).elim (a2 p) (b2 p)
  have hln : (l ++ o).length ≤ 16 := by rw [List.length_append]; omega
  have small : ∀ p : S41, SmallRec p → p.f0.size ≤ 9223372036854775807 ∧ p.f1.size ≤ 9223372036854775807 := fun p h => by
    obtain ⟨_, a, b⟩ := h
    rw [size_len, size_len]
    omega
  obtain ⟨f1, f2, f3, f4, f5⟩ := merge_facts (l ++ o)
  have hM := sized_merge l o (fun p hp => small p (hlo p hp)) (by omega)
  generalize mergeL (l ++ o) = m at hM f1 f2 f3 f4 f5
  have sm : ∀ p ∈ m, p.f0.size ≤ 9223372036854775807 ∧ p.f1.size ≤ 9223372036854775807 := fun p hp => by
    obtain ⟨q, hq, e1, e2⟩ := f4 p hp
    have hk : p.f0.size = (kOf q).length := by rw [size_len, e1]; rfl
    have hqs := (hlo q hq).2.1
    have hk2 : (kOf q).length ≤ 4 := hqs
    have hv : p.f1.size = (lastV (kOf p) (l ++ o)).length := by rw [size_len, ← e2]; rfl
    have hv2 : (lastV (kOf p) (l ++ o)).length ≤ 24 := by
      rcases lastV_mem (kOf p) (l ++ o) [] with ⟨h, _⟩ | ⟨y, hy, _, h⟩
      · unfold lastV; rw [h]; simp
      · unfold lastV; rw [h]; exact (hlo y hy).2.2
    omega
  have M1 : pax_Merge.f m [] = some m := by
    rw [sized_merge m [] (fun p hp => by rw [List.append_nil] at hp; exact sm p hp) (by rw [List.append_nil]; omega), List.append_nil, merge_of m m f1 f2 (fun k => rfl)]
  have M2 : pax_Merge.f [] m = some m := by
    rw [sized_merge [] m (fun p hp => by rw [List.nil_append] at hp; exact sm p hp) (by rw [List.nil_append]; omega), List.nil_append, merge_of m m f1 f2 (fun k => rfl)]
  have M3 : pax_Merge.f m o = some m := by
    rw [sized_merge m o (fun p hp => (List.mem_append.1 hp).elim (sm p) (fun h => small p (b2 p h))) (by rw [List.length_append]; omega), merge_of (m ++ o) m f1 f2 (fun k => by
      rw [lastV_app, f3 k, lastV_app, fold_twice])]
  have hF : ∀ p ∈ m, (findL p.f0 o.reverse).2 = true → (findL p.f0 o.reverse).1.data.toList = vOf p := fun p hp h => by
    obtain ⟨e, q, hq, hk⟩ := findL_last p.f0 o.reverse h
    obtain ⟨_, _, _, e2⟩ := f4 p hp
    rw [e, List.reverse_reverse, e2, lastV_app]
    exact fold_same _ o ⟨q, List.mem_reverse.1 hq, hk⟩ _ _
  have hL := over_l0 o m f1 f2 hF M1 M2 M3 (by omega) m.length 0 2000 (by omega) (by omega)
  rw [show ((0 : Nat) : Int) = 0 from rfl] at hL
  unfold mudlarklaw03_PaxOver.f
  rw [hR, Option.bind_some, hS, Option.bind_some, hM, Option.bind_some, hL]
end Go.Proofs.YtcbeehchhhoeeaaDoor.Pure

