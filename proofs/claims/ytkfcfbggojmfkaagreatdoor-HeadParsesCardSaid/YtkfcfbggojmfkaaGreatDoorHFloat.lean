/- A region that draws its order, in which one allocation waits for nothing and the other operations hand back values that do not hang on the order: one walk of the text's order serves all. -/
import Derived.Test.YtkfcfbggojmfkaaGreatDoorHHeadK
namespace Go.Proofs.YtkfcfbggojmfkaaGreatDoor.P
open Go Go.RowKit Go.Proofs.YtkfcfbggojmfkaaGreatDoorW.PrintWords
set_option linter.unusedVariables false
set_option linter.unusedSimpArgs false
section
variable {P : Program} {md : Region.Mode}

def Wf (w : World) : World → Prop := fun w' => Below w.heap.size w w'

theorem set_unlisted {lst : Array Bool} {i k : Nat} (h : (lst.setIfInBounds i true).getD k true = false) : i ≠ k ∧ lst.getD k true = false := by
 by_cases hik : i = k
 ·subst hik
  exfalso
  rcases Nat.lt_or_ge i lst.size with h' | h'
  ·simp [h'] at h
  ·simp [Array.getElem?_eq_none h'] at h
 ·rw [getD_set_ne true hik] at h
  exact ⟨hik, h⟩
theorem put_tmps_ne {a : Act} {dst : Option Tmp} {v : Value} {t : Nat} (h : dst ≠ some t) : (a.put dst v).tmps[t]? = a.tmps[t]? := by
 cases dst with
 | none => rfl
 | some d => exact Array.getElem?_setIfInBounds_ne (fun e => h (by rw [e]))
theorem detQ {ops : Array Oper} {C : World → Prop} {aN : Act} : ∀ (f : Nat) (lst : Array Bool) (a : Act), wpAnyQ P md ops C (fun a' => a' = aN) f lst a →
  ∀ t, (∀ k ok, ops[k]? = some ok → lst.getD k true = false → ok.dst ≠ some t) → a.tmps[t]? = aN.tmps[t]?
 | 0, _, a, h, t, _ => by rw [h.2]
 | f + 1, lst, a, h, t, hd => by
  by_cases hr : Region.ready md ops lst = []
  ·rw [h.1 hr]
  ·obtain ⟨i, hi⟩ := List.exists_mem_of_ne_nil _ hr
   obtain ⟨hu, oi, hoi, _⟩ := mem_ready.1 hi
   obtain ⟨v, _, hk⟩ := yieldsIn_of_qOp hoi (h.2 i hi)
   have h2 := detQ f _ _ hk t (fun k ok hk' hl => hd k ok hk' (set_unlisted hl).2)
   rw [← h2, put_tmps_ne (hd i oi hoi hu)]
theorem put_eq (a : Act) (dst : Option Tmp) (v v' : Value) (h : ∀ t, dst = some t → (a.put dst v).tmps[t]? = (a.put dst v').tmps[t]?) : a.put dst v = a.put dst v' := by
 cases dst with
 | none => rfl
 | some d =>
  have h1 := h d rfl
  rcases Nat.lt_or_ge d a.tmps.size with hd | hd
  ·simp [Act.put, hd] at h1
   rw [h1]
  ·simp [Act.put, Array.setIfInBounds_eq_of_size_le hd]
theorem wpAny_more {ops : Array Oper} {Q : Exit → Act → World → Prop} (k : Nat) : ∀ (f : Nat) (lst : Array Bool) (a : Act) (w : World), wpAny P md ops Q f lst a w → wpAny P md ops Q (f + k) lst a w
 | 0, lst, a, w, h => by
  rw [Nat.zero_add]
  cases k with
  | zero => exact h
  | succ k => exact ⟨fun _ => h.2, fun i hi => by rw [h.1] at hi; cases hi⟩
 | f + 1, lst, a, w, h => by
  rw [show f + 1 + k = (f + k) + 1 by omega]
  exact ⟨h.1, fun i hi => wpOp_mono (fun a' w' h' => wpAny_more k f _ a' w' h') (h.2 i hi)⟩
theorem step_float {ops : Array Oper} {Q : Exit → Act → World → Prop} {o : Oper} {j : Nat} (ho : ops[j]? = some o) (hg : o.guard = none) {a b : Act} {pf : Act → Act} {v : Value} {w : World} (hb : b = pf a)
  (hx : execOp b.eval o = execOp a.eval o) (hp : ∀ v, b.put o.dst v = pf (a.put o.dst v)) (hq : o.quietAt P a (Wf w) w v)
  {K : Act → World → Prop} (hK : ∀ w', Below w.heap.size w w' → K (pf (a.put o.dst v)) w') : wpOp P ops Q j K b w := by
 unfold wpOp
 simp only [ho]
 have hw : Region.wanted o (yielded ops b.tmps) = true := by unfold Region.wanted; rw [hg]
 rw [if_pos hw]
 refine .inl ?_
 unfold Oper.quietAt at hq
 unfold Oper.wp
 rw [hx]
 generalize (execOp a.eval o).run P w = r at *
 cases r with
 | ok nx w' =>
  cases nx <;> simp only [Oper.quietUpon] at hq <;> simp only [Oper.upon]
  case value u =>
   obtain ⟨e1, e2⟩ := hq
   rw [e1, e2, hp]
   exact hK _ (Below.refl _ _)
  case skip =>
   obtain ⟨e1, e2⟩ := hq
   rw [e1, hp, ← e2]
   exact hK _ (Below.refl _ _)
  case enter f args =>
   obtain ⟨e1, hc⟩ := hq
   rw [e1]
   refine hc.mono ?_
   rintro e w'' ⟨he, hw''⟩
   subst he
   show K (b.put o.dst v) w''
   rw [hp]
   exact hK _ hw''
 | halt x w' => simp only [Oper.quietUpon] at hq

def floatB (md : Region.Mode) (ops : Array Oper) (n d : Nat) : Bool :=
 ((List.range n).all fun j => match ops[j]? with
  | some o => o.guard.isNone && o.after.all (fun e => decide (e.on < j)) && !(o.looksAt ops).contains d && (o.dst != some d) &&
    ((List.range n).all fun k => k == j || match ops[k]? with | some ok => o.dst == none || ok.dst != o.dst | none => true)
  | none => false) &&
 (((List.range ops.size).all fun t => decide (t ≤ n + 1) || Region.waitsFor md ops t (t - 1)) && ((List.range (n + 1)).all fun i => (List.range (n + 2)).any fun j => decide (i < j) && Region.waitsFor md ops j i)) &&
 Region.seqB md ops (ops.size - (n + 1)) (n + 1) (Array.replicate (n + 1) true ++ Array.replicate (ops.size - (n + 1)) false) &&
 Region.noSelect ops && decide (n < ops.size) &&
 (match ops[n]? with
  | some oa => oa.after.all (fun e => decide (e.on < n)) && ((List.range n).all fun k => match ops[k]? with
    | some ok => (match ok.dst with | some t => !(oa.looksAt ops).contains t || Region.waitsFor md ops n k | none => true)
    | none => true)
  | none => false)

structure Beside (md : Region.Mode) (ops : Array Oper) (n : Nat) (listed lst : Array Bool) (b : Bool) : Prop where
 size : listed.size = ops.size
 lsize : lst.size = n
 same : ∀ j, j < n → listed.getD j true = lst.getD j true
 at' : listed.getD n true = b
 tail : ∀ t, n < t → t < ops.size → listed.getD t true = false
 cl : ∀ j oj, ops[j]? = some oj → listed.getD j true = true → ∀ e ∈ oj.after, Region.binds md e = true → listed.getD e.on false = true

theorem getD_any {l : Array Bool} {j : Nat} (h : j < l.size) : l.getD j true = l.getD j false := by simp [h]
theorem cl_set {ops : Array Oper} {i : Nat} {listed : Array Bool} (h : ∀ j oj, ops[j]? = some oj → listed.getD j true = true → ∀ e ∈ oj.after, Region.binds md e = true → listed.getD e.on false = true) (hr : i ∈ Region.ready md ops listed) :
  ∀ j oj, ops[j]? = some oj → (listed.setIfInBounds i true).getD j true = true → ∀ e ∈ oj.after, Region.binds md e = true → (listed.setIfInBounds i true).getD e.on false = true := by
 intro j oj hoj hl e he hb
 obtain ⟨_, oi, hoi, hal⟩ := mem_ready.1 hr
 by_cases hij : i = j
 ·subst hij
  have : oi = oj := Option.some.inj (hoi.symm.trans hoj)
  subst this
  exact getD_set_true (hal e he hb)
 ·rw [getD_set_ne true hij] at hl
  exact getD_set_true (h j oj hoj hl e he hb)
theorem Beside.set {ops : Array Oper} {n j : Nat} {listed lst : Array Bool} {b : Bool} (h : Beside md ops n listed lst b) (hj : j < n) (hr : j ∈ Region.ready md ops listed) : Beside md ops n (listed.setIfInBounds j true) (lst.setIfInBounds j true) b := by
 refine ⟨by simp [h.size], by simp [h.lsize], fun k hk => ?_, by rw [getD_set_ne true (by omega)]; exact h.at', fun t ht ht' => by rw [getD_set_ne true (by omega)]; exact h.tail t ht ht', cl_set h.cl hr⟩
 by_cases hjk : j = k
 ·subst hjk
  have h1 := h.same j hj
  have h2 := h.lsize
  by_cases hs : j < listed.size
  ·simp [hs, show j < lst.size by omega]
  ·simp [show j < lst.size by omega, Array.getElem?_eq_none (Nat.le_of_not_lt hs)]
 ·rw [getD_set_ne true hjk, getD_set_ne true hjk]
  exact h.same k hk
theorem Beside.alloc {ops : Array Oper} {n : Nat} {listed lst : Array Bool} (h : Beside md ops n listed lst false) (hr : n ∈ Region.ready md ops listed) : Beside md ops n (listed.setIfInBounds n true) lst true := by
 refine ⟨by simp [h.size], h.lsize, fun k hk => by rw [getD_set_ne true (by omega)]; exact h.same k hk, ?_, fun t ht ht' => by rw [getD_set_ne true (by omega)]; exact h.tail t ht ht', cl_set h.cl hr⟩
 rcases Nat.lt_or_ge n listed.size with h' | h'
 ·simp [h']
 ·simp [Array.getElem?_eq_none h']

theorem float_main {l : List Oper} {n d : Nat} {t : TypeId} {zs : Array Value} {oa : Oper} {vp : Nat → Value} (hB : floatB md l.toArray n d = true) (hoa : l.toArray[n]? = some oa) (hd : oa.dst = some d) (hga : oa.guard = none)
  {w0 : World} {Q : Exit → Act → World → Prop} {aN : Act}
  (hall : ∀ (a : Act) (w : World), (∀ t ∈ oa.looksAt l.toArray, a.tmps[t]? = aN.tmps[t]?) → (execOp a.eval oa).run P w = .ok (.value (vp w.heap.size)) (w.alloc (.cells zs t)))
  (hT : ∀ (w : World) (g : Nat), Below w0.heap.size w0 w → w0.heap.size ≤ g → w.heap[g]? = some (.cells zs t (0, 0)) → wpList P l.toArray Q (l.drop (n + 1)) (aN.put (some d) (vp g)) w) :
  ∀ (f : Nat) (lst : Array Bool),
   (∀ (listed : Array Bool) (a : Act) (w : World) (g : Nat), Beside md l.toArray n listed lst true → Below w0.heap.size w0 w → w0.heap.size ≤ g → w.heap[g]? = some (.cells zs t (0, 0)) →
    (∀ w1, Below w0.heap.size w0 w1 → wpAnyQ P md (l.take n).toArray (Wf w1) (fun a' => a' = aN) f lst a) → wpAny P md l.toArray Q (f + (l.length - (n + 1))) listed (a.put (some d) (vp g)) w) ∧
   (∀ (listed : Array Bool) (a : Act) (w : World), Beside md l.toArray n listed lst false → Below w0.heap.size w0 w →
    (∀ w1, Below w0.heap.size w0 w1 → wpAnyQ P md (l.take n).toArray (Wf w1) (fun a' => a' = aN) f lst a) → wpAny P md l.toArray Q (f + (l.length - (n + 1)) + 1) listed a w) := by
 simp only [floatB, Bool.and_eq_true, decide_eq_true_eq] at hB
 obtain ⟨⟨⟨⟨⟨hH, hC⟩, hS⟩, hsel⟩, hn⟩, hA⟩ := hB
 rw [hoa] at hA
 simp only [Bool.and_eq_true] at hA
 have hAf : ∀ e ∈ oa.after, e.on < n := fun e he => of_decide_eq_true (Array.all_eq_true'.1 hA.1 e he)
 have hAl : ∀ k ok, k < n → l.toArray[k]? = some ok → ∀ t, ok.dst = some t → t ∈ oa.looksAt l.toArray → Region.waitsFor md l.toArray n k = true := by
  intro k ok hk hok t ht hm
  have h1 := List.all_eq_true.1 hA.2 k (List.mem_range.2 hk)
  rw [hok] at h1
  simp only [ht, Bool.or_eq_true, Bool.not_eq_true', List.contains_eq_mem, decide_eq_false_iff_not] at h1
  exact h1.resolve_left (fun h => h hm)
 have hn' : n < l.length := by simpa using hn
 have htk : ∀ j, j < n → (l.take n).toArray[j]? = l.toArray[j]? := fun j hj => by simp [hj]
 have head : ∀ j, j < n → ∃ o, l.toArray[j]? = some o ∧ o.guard = none ∧ (∀ e ∈ o.after, e.on < j) ∧ d ∉ o.looksAt l.toArray ∧ o.dst ≠ some d ∧ (∀ k ok, k < n → k ≠ j → l.toArray[k]? = some ok → ∀ t, o.dst = some t → ok.dst ≠ some t) := by
  intro j hj
  have h1 := List.all_eq_true.1 hH j (List.mem_range.2 hj)
  cases ho : l.toArray[j]? with
  | none => rw [ho] at h1; cases h1
  | some o =>
   rw [ho] at h1
   simp only [Bool.and_eq_true] at h1
   obtain ⟨⟨⟨⟨a1, a2⟩, a3⟩, a4⟩, a5⟩ := h1
   refine ⟨o, rfl, by simpa using a1, fun e he => of_decide_eq_true (Array.all_eq_true'.1 a2 e he), by simpa using a3, by simpa using a4, fun k ok hk hkj hok t ht => ?_⟩
   have h2 := List.all_eq_true.1 a5 k (List.mem_range.2 hk)
   rw [hok] at h2
   simp only [ht, Bool.or_eq_true, beq_iff_eq, bne_iff_ne, hkj, false_or] at h2
   rcases h2 with h2 | h2
   ·cases h2
   ·exact h2
 have tails : ∀ {b : Bool} {listed lst : Array Bool}, Beside md l.toArray n listed lst b → (b = false ∨ ∃ i, i < n ∧ lst.getD i true = false) → ∀ j ∈ Region.ready md l.toArray listed, j ≤ n := by
  intro b listed lst hb hu j hj
  rcases Nat.lt_or_ge n j with hnj | hnj
  ·exfalso
   obtain ⟨_, oj, hoj, hal⟩ := mem_ready.1 hj
   have hjs : j < l.toArray.size := (Array.getElem?_eq_some_iff.1 hoj).1
   have h1 := List.all_eq_true.1 hC.1 j (List.mem_range.2 hjs)
   simp only [Bool.or_eq_true, decide_eq_true_eq] at h1
   have wait : ∀ i, Region.waitsFor md l.toArray j i = true → listed.getD i true = false → i < listed.size → False := by
    intro i hw hl hi
    obtain ⟨o', ho', e, he, hbd, hon⟩ := Region.waitsFor_spec hw
    have : o' = oj := Option.some.inj (ho'.symm.trans hoj)
    subst this
    have h3 := hal e he hbd
    rw [hon, ← getD_any hi, hl] at h3
    cases h3
   by_cases hj1 : j = n + 1
   ·have low : ∀ (d i : Nat), n + 1 - i = d → i ≤ n → listed.getD i true = false → False := by
     intro d
     induction d using Nat.strongRecOn with
     | _ d ih =>
      intro i hd hi hun
      have h3 := List.all_eq_true.1 hC.2 i (List.mem_range.2 (by omega))
      obtain ⟨k, hk, hk2⟩ := List.any_eq_true.1 h3
      simp only [Bool.and_eq_true, decide_eq_true_eq] at hk2
      have hk' := List.mem_range.1 hk
      by_cases hkn : k = n + 1
      ·exact wait i (by rw [hj1, ← hkn]; exact hk2.2) hun (by rw [hb.size]; omega)
      ·cases hl : listed.getD k true with
       | true =>
        obtain ⟨ok, hok, e, he, hbd, hon⟩ := Region.waitsFor_spec hk2.2
        have h4 := hb.cl k ok hok hl e he hbd
        rw [hon, ← getD_any (by rw [hb.size]; omega), hun] at h4
        cases h4
       | false => exact ih (n + 1 - k) (by omega) k rfl (by omega) hl
    rcases hu with hu | ⟨i, hi, hu⟩
    ·exact low _ n rfl (Nat.le_refl _) (by rw [hb.at', hu])
    ·exact low _ i rfl (by omega) (by rw [hb.same i hi]; exact hu)
   ·exact wait (j - 1) (h1.resolve_left (by omega)) (hb.tail (j - 1) (by omega) (by omega)) (by rw [hb.size]; omega)
  ·exact hnj
 have rdy : ∀ {b : Bool} {listed lst : Array Bool}, Beside md l.toArray n listed lst b → ∀ j, j < n → (j ∈ Region.ready md l.toArray listed ↔ j ∈ Region.ready md (l.take n).toArray lst) := by
  intro b listed lst hb j hj
  obtain ⟨o, ho, _, haf, _⟩ := head j hj
  rw [mem_ready, mem_ready, htk j hj, hb.same j hj, ho]
  have hs := hb.size
  have hl := hb.lsize
  refine and_congr_right fun _ => exists_congr fun o' => and_congr_right fun ho' => ?_
  have : o = o' := Option.some.inj ho'
  subst this
  refine forall_congr' fun e => forall_congr' fun he => forall_congr' fun _ => ?_
  have h1 := haf e he
  rw [← getD_any (by omega), ← getD_any (by omega), hb.same e.on (by omega)]
 have full : ∀ {listed lst : Array Bool}, Beside md l.toArray n listed lst true → Region.ready md (l.take n).toArray lst = [] → listed = Array.replicate (n + 1) true ++ Array.replicate (l.toArray.size - (n + 1)) false := by
  intro listed lst hb hr
  have hl := hb.lsize
  have hs := hb.size
  have allt : ∀ j, j < n → lst.getD j true = true := by
   intro j
   induction j using Nat.strongRecOn with
   | _ j ih =>
    intro hj
    cases hc : lst.getD j true with
    | true => rfl
    | false =>
     exfalso
     obtain ⟨o, ho, _, haf, _⟩ := head j hj
     have : j ∈ Region.ready md (l.take n).toArray lst := mem_ready.2 ⟨hc, o, by rw [htk j hj]; exact ho, fun e he _ => by
      have h1 := haf e he
      rw [← getD_any (by omega)]
      exact ih e.on h1 (by omega)⟩
     rw [hr] at this
     cases this
  refine Array.ext (by simp at hs ⊢; omega) fun i h1 h2 => ?_
  rw [Array.getElem_append]
  have hg : listed[i] = listed.getD i true := by simp [h1]
  rw [hg]
  by_cases hi : i < n + 1
  ·rw [dif_pos (by simpa using hi)]
   simp only [Array.getElem_replicate]
   by_cases hin : i = n
   ·rw [hin]; exact hb.at'
   ·rw [hb.same i (by omega)]; exact allt i (by omega)
  ·rw [dif_neg (by simpa using hi)]
   simp only [Array.getElem_replicate]
   exact hb.tail i (by omega) (by omega)
 have allL : ∀ {b : Bool} {listed lst : Array Bool}, Beside md l.toArray n listed lst b → Region.ready md (l.take n).toArray lst = [] → ∀ j, j < n → lst.getD j true = true := by
  intro b listed lst hb hr j
  have hl := hb.lsize
  induction j using Nat.strongRecOn with
  | _ j ih =>
   intro hj
   cases hc : lst.getD j true with
   | true => rfl
   | false =>
    exfalso
    obtain ⟨o, ho, _, haf, _⟩ := head j hj
    have : j ∈ Region.ready md (l.take n).toArray lst := mem_ready.2 ⟨hc, o, by rw [htk j hj]; exact ho, fun e he _ => by
     have h1 := haf e he
     rw [← getD_any (by omega)]
     exact ih e.on h1 (by omega)⟩
    rw [hr] at this
    cases this
 have some_ready : ∀ {listed lst : Array Bool}, Beside md l.toArray n listed lst false → ¬ Region.ready md l.toArray listed = [] := by
  intro listed lst hb h0
  by_cases hr : Region.ready md (l.take n).toArray lst = []
  ·have : n ∈ Region.ready md l.toArray listed := mem_ready.2 ⟨hb.at', oa, hoa, fun e he _ => by
    have h1 := hAf e he
    have hs := hb.size
    rw [← getD_any (by omega), hb.same e.on h1]
    exact allL hb hr e.on h1⟩
   rw [h0] at this
   cases this
  ·obtain ⟨i, hi⟩ := List.exists_mem_of_ne_nil _ hr
   obtain ⟨_, o, ho, _⟩ := mem_ready.1 hi
   have hin := (Array.getElem?_eq_some_iff.1 ho).1
   simp at hin
   have := (rdy hb i (by omega)).2 hi
   rw [h0] at this
   cases this
 have looks : ∀ (f : Nat) {listed lst : Array Bool} {a : Act} (w1 : World), Beside md l.toArray n listed lst false → n ∈ Region.ready md l.toArray listed → wpAnyQ P md (l.take n).toArray (Wf w1) (fun a' => a' = aN) f lst a → ∀ t ∈ oa.looksAt l.toArray, a.tmps[t]? = aN.tmps[t]? := by
  intro f listed lst a w1 hb hr h t ht
  refine detQ f _ _ h t fun k ok hok hl hdst => ?_
  have hkn : k < n := by
   have := (Array.getElem?_eq_some_iff.1 hok).1
   simp at this
   omega
  have h1 := hAl k ok hkn (by rw [← htk k hkn]; exact hok) t hdst ht
  obtain ⟨o', ho', e, he, hbd, hon⟩ := Region.waitsFor_spec h1
  obtain ⟨_, o2, ho2, hall2⟩ := mem_ready.1 hr
  have : o' = o2 := Option.some.inj (ho'.symm.trans ho2)
  subst this
  have h2 := hall2 e he hbd
  have hs := hb.size
  rw [hon, ← getD_any (by omega), hb.same k hkn, hl] at h2
  cases h2
 have seq : ∀ {listed lst : Array Bool} (w : World) (g : Nat), Beside md l.toArray n listed lst true → Region.ready md (l.take n).toArray lst = [] → Below w0.heap.size w0 w → w0.heap.size ≤ g → w.heap[g]? = some (.cells zs t (0, 0)) →
   wpAny P md l.toArray Q (l.length - (n + 1)) listed (aN.put (some d) (vp g)) w := by
  intro listed lst w g hb hr hw hg hbk
  have hfu := full hb hr
  have h1 := wpAny_of_seq (md := md) (Q' := Q) (l.drop (n + 1)) (n + 1) listed _ w (fun j => by simp [List.getElem?_drop]) (by rw [hfu, List.length_drop]; have := hS; simpa using this) (hT w g hw hg hbk)
  rwa [List.length_drop] at h1
 have step : ∀ (f : Nat) (lst : Array Bool) (a : Act), (∀ w1, Below w0.heap.size w0 w1 → wpAnyQ P md (l.take n).toArray (Wf w1) (fun a' => a' = aN) (f + 1) lst a) → ∀ j ∈ Region.ready md (l.take n).toArray lst, j < n → ∀ (o : Oper), l.toArray[j]? = some o → o.guard = none →
   ∀ (w : World), Below w0.heap.size w0 w → ∃ v, o.quietAt P a (Wf w) w v ∧ ∀ w1, Below w0.heap.size w0 w1 → wpAnyQ P md (l.take n).toArray (Wf w1) (fun a' => a' = aN) f (lst.setIfInBounds j true) (a.put o.dst v) := by
  intro f lst a h j hj hjn o ho hg w hw
  have ho' : (l.take n).toArray[j]? = some o := by rw [htk j hjn]; exact ho
  obtain ⟨v, hy, hk⟩ := yieldsIn_of_qOp ho' ((h w hw).2 j hj)
  have hwd : Region.wanted o (yielded (l.take n).toArray a.tmps) = true := by unfold Region.wanted; rw [hg]
  obtain ⟨_, hq⟩ := hy.resolve_right (fun h => by rw [hwd] at h; cases h.1)
  refine ⟨v, hq w (Below.refl _ _), fun w1 hw1 => ?_⟩
  obtain ⟨v', hy', hk'⟩ := yieldsIn_of_qOp ho' ((h w1 hw1).2 j hj)
  have : a.put o.dst v = a.put o.dst v' := by
   refine put_eq a _ v v' fun t ht => ?_
   have hun : ∀ k ok, (l.take n).toArray[k]? = some ok → (lst.setIfInBounds j true).getD k true = false → ok.dst ≠ some t := by
    intro k ok hok hl
    have hkn : k < n := by
     have := (Array.getElem?_eq_some_iff.1 hok).1
     simp at this
     omega
    obtain ⟨o2, ho2, _, _, _, _, hu⟩ := head j hjn
    have : o2 = o := Option.some.inj (ho2.symm.trans ho)
    subst this
    exact hu k ok hkn (Ne.symm (set_unlisted hl).1) (by rw [← htk k hkn]; exact hok) t ht
   rw [detQ f _ _ hk t hun, detQ f _ _ hk' t hun]
  rw [this]
  exact hk'
 have noSel : ∀ (j : Nat) (o : Oper), l.toArray[j]? = some o → ∀ cs b, o.op ≠ .select cs b := fun j o ho cs b => Region.noSelect_spec hsel j o cs b ho
 have nonnil : ∀ {b : Bool} {listed lst : Array Bool}, Beside md l.toArray n listed lst b → ¬ Region.ready md (l.take n).toArray lst = [] → ∃ i, i < n ∧ i ∈ Region.ready md (l.take n).toArray lst := by
  intro b listed lst hb hr
  obtain ⟨i, hi⟩ := List.exists_mem_of_ne_nil _ hr
  obtain ⟨_, o, ho, _⟩ := mem_ready.1 hi
  have := (Array.getElem?_eq_some_iff.1 ho).1
  simp at this
  exact ⟨i, by omega, hi⟩
 intro f
 induction f with
 | zero =>
  intro lst
  have B0 : ∀ (listed : Array Bool) (a : Act) (w : World) (g : Nat), Beside md l.toArray n listed lst true → Below w0.heap.size w0 w → w0.heap.size ≤ g → w.heap[g]? = some (.cells zs t (0, 0)) →
    (∀ w1, Below w0.heap.size w0 w1 → wpAnyQ P md (l.take n).toArray (Wf w1) (fun a' => a' = aN) 0 lst a) → wpAny P md l.toArray Q (0 + (l.length - (n + 1))) listed (a.put (some d) (vp g)) w := by
   intro listed a w g hb hw hg hbk h
   have h1 := h w hw
   rw [Nat.zero_add, h1.2]
   exact seq w g hb h1.1 hw hg hbk
  refine ⟨B0, fun listed a w hb hw h => ?_⟩
  refine ⟨fun h0 => absurd h0 (some_ready hb), fun j hj => ?_⟩
  have hjn := tails hb (.inl rfl) j hj
  rcases Nat.lt_or_eq_of_le hjn with hjn | hjn
  ·have h1 := (rdy hb j hjn).1 hj
   rw [(h w hw).1] at h1
   cases h1
  ·subst hjn
   unfold wpOp
   simp only [hoa]
   rw [if_pos (by unfold Region.wanted; rw [hga])]
   refine .inl ?_
   unfold Oper.wp
   rw [hall a w (looks _ w hb hj (h w hw))]
   show wpAny P md l.toArray Q _ _ (a.put oa.dst _) _
   rw [hd]
   exact B0 _ a _ _ (hb.alloc hj) (hw.alloc hw.size _) hw.size (row2_alloc w zs t) h
 | succ f ih =>
  intro lst
  have B1 : ∀ (listed : Array Bool) (a : Act) (w : World) (g : Nat), Beside md l.toArray n listed lst true → Below w0.heap.size w0 w → w0.heap.size ≤ g → w.heap[g]? = some (.cells zs t (0, 0)) →
    (∀ w1, Below w0.heap.size w0 w1 → wpAnyQ P md (l.take n).toArray (Wf w1) (fun a' => a' = aN) (f + 1) lst a) → wpAny P md l.toArray Q (f + 1 + (l.length - (n + 1))) listed (a.put (some d) (vp g)) w := by
   intro listed a w g hb hw hg hbk h
   by_cases hr : Region.ready md (l.take n).toArray lst = []
   ·rw [(h w hw).1 hr, Nat.add_comm]
    exact wpAny_more (f + 1) _ _ _ _ (seq w g hb hr hw hg hbk)
   ·obtain ⟨i, hin, hi⟩ := nonnil hb hr
    rw [show f + 1 + (l.length - (n + 1)) = (f + (l.length - (n + 1))) + 1 by omega]
    refine ⟨fun h0 => ?_, fun j hj => ?_⟩
    ·have h1 := (rdy hb i hin).2 hi
     rw [h0] at h1
     cases h1
    ·have hjn := tails hb (.inr ⟨i, hin, (mem_ready.1 hi).1⟩) j hj
     rcases Nat.lt_or_eq_of_le hjn with hjn | hjn
     ·obtain ⟨o, ho, hg', haf, hla, hdn, _⟩ := head j hjn
      obtain ⟨v, hq, hk⟩ := step f lst a h j ((rdy hb j hjn).1 hj) hjn o ho hg' w hw
      refine step_float ho hg' (a := a) (pf := fun a => a.put (some d) (vp g)) (v := v) rfl (execOp_put (ops := l.toArray) o (noSel j o ho) a (some d) _ (fun d' hd' => by cases hd'; exact hla)) (fun v => (Act.put_comm a _ _ (fun d' hd' => by cases hd'; exact hdn))) hq ?_
      intro w' hw'
      exact (ih (lst.setIfInBounds j true)).1 _ (a.put o.dst v) w' g (hb.set hjn hj) (hw.trans (below_step (Below.refl _ _) hw' |>.mono hw.size)) hg (by rw [hw'.block g (Array.getElem?_eq_some_iff.1 hbk).1]; exact hbk) hk
     ·subst hjn
      have h1 := (mem_ready.1 hj).1
      rw [hb.at'] at h1
      cases h1
  refine ⟨B1, fun listed a w hb hw h => ?_⟩
  refine ⟨fun h0 => absurd h0 (some_ready hb), fun j hj => ?_⟩
  have hjn := tails hb (.inl rfl) j hj
  rcases Nat.lt_or_eq_of_le hjn with hjn | hjn
  ·obtain ⟨o, ho, hg', haf, hla, hdn, _⟩ := head j hjn
   obtain ⟨v, hq, hk⟩ := step f lst a h j ((rdy hb j hjn).1 hj) hjn o ho hg' w hw
   refine step_float ho hg' (a := a) (pf := fun a => a) (v := v) rfl rfl (fun v => rfl) hq ?_
   intro w' hw'
   have := (ih (lst.setIfInBounds j true)).2 _ (a.put o.dst v) w' (hb.set hjn hj) (below_step hw hw') hk
   rw [show f + 1 + (l.length - (n + 1)) = f + (l.length - (n + 1)) + 1 by omega]
   exact this
  ·subst hjn
   unfold wpOp
   simp only [hoa]
   rw [if_pos (by unfold Region.wanted; rw [hga])]
   refine .inl ?_
   unfold Oper.wp
   rw [hall a w (looks _ w hb hj (h w hw))]
   show wpAny P md l.toArray Q _ _ (a.put oa.dst _) _
   rw [hd]
   exact B1 _ a _ _ (hb.alloc hj) (hw.alloc hw.size _) hw.size (row2_alloc w zs t) h

structure Reach (w0 : World) where
 w : World
 below : Below w0.heap.size w0 w
instance (w0 : World) : Inhabited (Reach w0) := ⟨⟨w0, Below.refl _ _⟩⟩
theorem Wf_eq (w : World) : Wf w = fun w' => ∃ p : Reach w, w' = p.w := by
 funext w'
 exact propext ⟨fun h => ⟨⟨w', h⟩, rfl⟩, fun ⟨p, hp⟩ => by rw [hp]; exact p.below⟩
theorem Calls.reach_of {f : FuncId} {args : Array Value} {w1 : World} {p : Reach w1} {v : Value} (h : Calls P f args p.w fun e w' => e = .returned v ∧ Below p.w.heap.size p.w w') : Calls P f args p.w fun e w' => e = .returned v ∧ ∃ q : Reach w1, w' = q.w :=
 h.mono fun _ w' ⟨he, hb⟩ => ⟨he, ⟨⟨w', below_step p.below hb⟩, rfl⟩⟩
theorem wp_region_float {id : Nat} {Q : Exit → Act → World → Prop} {a : Act} {w : World} {l : List Oper} (n d : Nat) {t : TypeId} {zs : Array Value} {oa : Oper} (vp : Nat → Value) (hm : P.follows .mixedOrders = true)
  (hB : floatB .any l.toArray n d = true) (hL : Region.lexB .any (l.take n).toArray = true) (hoa : l.toArray[n]? = some oa) (hd : oa.dst = some d) (hga : oa.guard = none)
  (hh : ∃ aN : Act, (∀ w1, Below w.heap.size w w1 → wpQuiet P (l.take n).toArray (fun w' => ∃ p : Reach w1, w' = p.w) (fun a' => a' = aN) (l.take n) a) ∧
   (∀ (a : Act) (w : World), (∀ t ∈ oa.looksAt l.toArray, a.tmps[t]? = aN.tmps[t]?) → (execOp a.eval oa).run P w = .ok (.value (vp w.heap.size)) (w.alloc (.cells zs t))) ∧
   ∀ (w' : World) (g : Nat), Below w.heap.size w w' → w.heap.size ≤ g → w'.heap[g]? = some (.cells zs t (0, 0)) → wpList P l.toArray Q (l.drop (n + 1)) (aN.put (some d) (vp g)) w') :
  (Code.region id l.toArray true).wp P Q a w := by
 obtain ⟨aN, h, hall, hT⟩ := hh
 have hbd : Below w.heap.size w w.drew := below_drew (Below.refl _ _)
 have hbd' : ∀ w', Below w.drew.heap.size w.drew w' → Below w.heap.size w w' := fun w' hb => below_step hbd hb
 have hn : n < l.length := by
  simp only [floatB, Bool.and_eq_true, decide_eq_true_eq] at hB
  simpa using hB.1.2
 refine wp_region_any hm ?_
 have hL' := hL
 simp only [Region.lexB, Bool.and_eq_true] at hL'
 have htl : (l.take n).length = n := by simp; omega
 have key : ∀ w1, Below w.drew.heap.size w.drew w1 → wpAnyQ P .any (l.take n).toArray (Wf w1) (fun a' => a' = aN) n (Array.replicate n false) a := by
  intro w1 hw1
  have h1 := h w1 (hbd' w1 hw1)
  rw [← Wf_eq] at h1
  have h2 := wpAnyQ_lex (P := P) (C := Wf w1) (md := .any) (ops := (l.take n).toArray) hL'.1 (l.take n) 0 (Array.replicate n false) a (by simp) (by have := hL'.2; simpa [htl, Nat.min_eq_left (Nat.le_of_lt hn)] using this) h1
  rwa [htl] at h2
 have := (float_main (P := P) (md := .any) (w0 := w.drew) (Q := Q) (aN := aN) hB hoa hd hga hall (fun w' g hb hg hk => hT w' g (hbd' w' hb) hg hk) n (Array.replicate n false)).2 (Array.replicate l.toArray.size false) a w.drew
  ⟨by simp, by simp, fun j hj => by simp [hj, show j < l.length by omega], by simp [hn], fun t _ ht => by simp at ht; simp [ht], fun j oj hoj hl => by have hj := (Array.getElem?_eq_some_iff.1 hoj).1; simp at hj; simp [hj] at hl⟩ (Below.refl _ _) key
 rw [show n + (l.length - (n + 1)) + 1 = l.toArray.size by simp; omega] at this
 exact this
end
end Go.Proofs.YtkfcfbggojmfkaaGreatDoor.P
