/- What is printed of a header is parsed as it was: plain lists. No conditions. head.parse as a function of a block's bytes; what was printed is parsed as it was. No conditions. What head.print lays head.parse reads as it was: over all headers. No conditions. -/
import Derived.Test.YtkfcfbggojmfkaaGreatDoorHHeadF
import Derived.Test.YtkfcfbggojmfkaaGreatDoorHPut
section
namespace Go.Proofs.YtkfcfbggojmfkaaGreatDoor.P
open Go Go.RowKit Go.Proofs.YtkfcfbggojmfkaaGreatDoorW.PrintWords Go.Proofs.YtkfcfbggojmfkaaGreatDoorW.PrintLast Go.Proofs.YtkfcfbggojmfkaaGreatDoorW.PrintMore
set_option linter.unusedVariables false
set_option linter.unusedSimpArgs false

def fld (l : List Int) (a w : Nat) : List Int := (l.take (a + w)).drop a
theorem fld_same (b f : List Int) (at_ : Nat) (h : at_ + f.length ≤ b.length) : fld (splice b at_ f) at_ f.length = f := by
 unfold fld splice
 have h1 : (b.take at_).length = at_ := by rw [List.length_take]; omega
 rw [List.take_append, h1, List.take_of_length_le (by rw [h1]; omega), show at_ + f.length - at_ = f.length by omega, List.take_append_of_le_length (Nat.le_refl _), List.take_length]
 rw [List.drop_append, h1, List.drop_eq_nil_of_le (by rw [h1]; exact Nat.le_refl _), Nat.sub_self, List.drop_zero, List.nil_append]
theorem splice_get (b f : List Int) (at_ i : Nat) (h : at_ + f.length ≤ b.length) (hi : i < at_ ∨ at_ + f.length ≤ i) : (splice b at_ f)[i]? = b[i]? := by
 unfold splice
 have h1 : (b.take at_).length = at_ := by rw [List.length_take]; omega
 rcases hi with hi | hi
 ·rw [List.getElem?_append_left (by omega), List.getElem?_take_of_lt hi]
 ·rw [List.getElem?_append_right (by omega), h1, List.getElem?_append_right (by omega), List.getElem?_drop]
  congr 1
  omega
theorem fld_get (l : List Int) (a w j : Nat) : (fld l a w)[j]? = if j < w then l[a + j]? else none := by
 unfold fld
 rw [List.getElem?_drop]
 split
 ·rw [List.getElem?_take_of_lt (by omega)]
 ·rw [List.getElem?_eq_none (by rw [List.length_take]; omega)]
theorem fld_ext {l m : List Int} {a w : Nat} (h : ∀ i, a ≤ i → i < a + w → l[i]? = m[i]?) : fld l a w = fld m a w := by
 apply List.ext_getElem?
 intro j
 rw [fld_get, fld_get]
 split
 ·exact h _ (by omega) (by omega)
 ·rfl
theorem fld_far (b f : List Int) (at_ a w : Nat) (h : at_ + f.length ≤ b.length) (hd : a + w ≤ at_ ∨ at_ + f.length ≤ a) : fld (splice b at_ f) a w = fld b a w :=
 fld_ext fun i h1 h2 => splice_get b f at_ i h (by omega)
theorem fld_set (b : List Int) (i : Nat) (v : Int) (a w : Nat) (hd : i < a ∨ a + w ≤ i) : fld (b.set i v) a w = fld b a w :=
 fld_ext fun j h1 h2 => List.getElem?_set_ne (by omega)
theorem seal_get (c : List Int) (hc : c.length = 512) (i : Nat) (hi : i < 148 ∨ 156 ≤ i) : (sealF c)[i]? = c[i]? := by
 have hp := padF_id c hc
 rcases hi with hi | hi
 ·have h := congrArg (fun l => l[i]?) (seal_front c)
  simp only [List.getElem?_take_of_lt hi] at h
  rw [h, hp]
 ·have h := congrArg (fun l => l[i - 156]?) (seal_back c)
  simp only [List.getElem?_drop, show 156 + (i - 156) = i by omega] at h
  rw [h, hp]
theorem fld_seal (c : List Int) (hc : c.length = 512) (a w : Nat) (hd : a + w ≤ 148 ∨ 156 ≤ a) : fld (sealF c) a w = fld c a w :=
 fld_ext fun i h1 h2 => seal_get c hc i (by omega)
def Apart (a w b v : Nat) : Prop := a + w ≤ b ∨ b + v ≤ a
instance (a w b v : Nat) : Decidable (Apart a w b v) := by unfold Apart; infer_instance
theorem textsP_blk (h : S31) : ∀ (ts : List (Nat × Nat × Nat)) (b c : List Int), textsP h ts b = some c → Blk b → (∀ t ∈ ts, TxtOk t) → Blk c
 | [], b, c, e, hb, _ => by obtain rfl := Option.some.inj e; exact hb
 | t :: ts, b, c, e, hb, ht => by
  unfold textsP at e
  split at e
  ·rename_i hs
   have hp := sput_ok _ _ hs
   refine textsP_blk h ts _ c e ?_ (fun x hx => ht x (by simp [hx]))
   split
   ·exact hb
   ·exact hb.splice _ _ hp.2 (by rw [hp.1]; exact (ht t (by simp)).1)
  ·cases e
theorem textsP_far (h : S31) (a w : Nat) : ∀ (ts : List (Nat × Nat × Nat)) (b c : List Int), textsP h ts b = some c → Blk b → (∀ t ∈ ts, TxtOk t) → (∀ t ∈ ts, (txtOf h t.2.2).toList = [] ∨ Apart a w t.1 t.2.1) → fld c a w = fld b a w
 | [], b, c, e, hb, _, _ => by obtain rfl := Option.some.inj e; rfl
 | t :: ts, b, c, e, hb, ht, hd => by
  unfold textsP at e
  split at e
  ·rename_i hs
   have hp := sput_ok _ _ hs
   have ho := (ht t (by simp)).1
   have ih := textsP_far h a w ts _ c e (by
    split
    ·exact hb
    ·exact hb.splice _ _ hp.2 (by rw [hp.1]; exact ho)) (fun x hx => ht x (by simp [hx])) (fun x hx => hd x (by simp [hx]))
   rw [ih]
   split
   ·rfl
   ·rename_i hn
    have hd1 := (hd t (by simp)).resolve_left hn
    unfold Apart at hd1
    exact fld_far _ _ _ _ _ (by rw [hp.1, hb.len]; exact ho) (by rw [hp.1]; exact hd1)
  ·cases e
theorem textsP_same (h : S31) : ∀ (ts : List (Nat × Nat × Nat)) (b c : List Int), textsP h ts b = some c → Blk b → (∀ t ∈ ts, TxtOk t) → ts.Pairwise (fun t u => Apart t.1 t.2.1 u.1 u.2.1) → ∀ t ∈ ts, (sputF (txtOf h t.2.2) (t.2.1 : Int)).2 = true ∧ (¬ (txtOf h t.2.2).toList = [] → fld c t.1 t.2.1 = (sputF (txtOf h t.2.2) (t.2.1 : Int)).1)
 | [], b, c, e, hb, _, _, t, h0 => by cases h0
 | t :: ts, b, c, e, hb, ht, hp2, u, hu => by
  unfold textsP at e
  split at e
  ·rename_i hs
   have hp := sput_ok _ _ hs
   have ho := (ht t (by simp)).1
   have hb2 : Blk (if (txtOf h t.2.2).toList = [] then b else splice b t.1 (sputF (txtOf h t.2.2) (t.2.1 : Int)).1) := by
    split
    ·exact hb
    ·exact hb.splice _ _ hp.2 (by rw [hp.1]; exact ho)
   rw [List.pairwise_cons] at hp2
   rcases List.mem_cons.1 hu with rfl | hu
   ·refine ⟨hs, fun hn => ?_⟩
    rw [textsP_far h _ _ ts _ c e hb2 (fun x hx => ht x (by simp [hx])) (fun x hx => .inr (hp2.1 x hx)), if_neg hn]
    have := fld_same b (sputF (txtOf h u.2.2) (u.2.1 : Int)).1 u.1 (by rw [hp.1, hb.len]; exact ho)
    rw [hp.1] at this
    exact this
   ·exact textsP_same h ts _ c e hb2 (fun x hx => ht x (by simp [hx])) hp2.2 u hu
  ·cases e
theorem numsP_blk (h : S31) : ∀ (ts : List (Nat × Nat × Nat × Int × Int)) (b c : List Int), numsP h ts b = some c → Blk b → (∀ t ∈ ts, NumOk t) → Blk c
 | [], b, c, e, hb, _ => by obtain rfl := Option.some.inj e; exact hb
 | t :: ts, b, c, e, hb, ht => by
  unfold numsP at e
  split at e
  ·rename_i hs
   obtain ⟨h1, h2, h3, _⟩ := ht t (by simp)
   have hp := put_ok _ _ h2 (Int.le_trans hs.2.2 h3) hs.1
   exact numsP_blk h ts _ c e (hb.splice _ _ hp.2.1 (by rw [hp.1]; exact h1)) (fun x hx => ht x (by simp [hx]))
  ·cases e
theorem numsP_far (h : S31) (a w : Nat) : ∀ (ts : List (Nat × Nat × Nat × Int × Int)) (b c : List Int), numsP h ts b = some c → Blk b → (∀ t ∈ ts, NumOk t) → (∀ t ∈ ts, Apart a w t.1 t.2.1) → fld c a w = fld b a w
 | [], b, c, e, hb, _, _ => by obtain rfl := Option.some.inj e; rfl
 | t :: ts, b, c, e, hb, ht, hd => by
  unfold numsP at e
  split at e
  ·rename_i hs
   obtain ⟨h1, h2, h3, _⟩ := ht t (by simp)
   have hp := put_ok _ _ h2 (Int.le_trans hs.2.2 h3) hs.1
   have hd1 := hd t (by simp)
   unfold Apart at hd1
   rw [numsP_far h a w ts _ c e (hb.splice _ _ hp.2.1 (by rw [hp.1]; exact h1)) (fun x hx => ht x (by simp [hx])) (fun x hx => hd x (by simp [hx]))]
   exact fld_far _ _ _ _ _ (by rw [hp.1, hb.len]; exact h1) (by rw [hp.1]; exact hd1)
  ·cases e
theorem numsP_same (h : S31) : ∀ (ts : List (Nat × Nat × Nat × Int × Int)) (b c : List Int), numsP h ts b = some c → Blk b → (∀ t ∈ ts, NumOk t) → ts.Pairwise (fun t u => Apart t.1 t.2.1 u.1 u.2.1) → ∀ t ∈ ts, okN (numOf h t.2.2.1) t.2.1 t.2.2.2.1 t.2.2.2.2 ∧ parseF (fld c t.1 t.2.1) = (numOf h t.2.2.1, true)
 | [], b, c, e, hb, _, _, t, h0 => by cases h0
 | t :: ts, b, c, e, hb, ht, hp2, u, hu => by
  unfold numsP at e
  split at e
  ·rename_i hs
   obtain ⟨h1, h2, h3, _⟩ := ht t (by simp)
   have hp := put_ok _ _ h2 (Int.le_trans hs.2.2 h3) hs.1
   have hb2 := hb.splice t.1 _ hp.2.1 (by rw [hp.1]; exact h1)
   rw [List.pairwise_cons] at hp2
   rcases List.mem_cons.1 hu with rfl | hu
   ·refine ⟨hs, ?_⟩
    rw [numsP_far h _ _ ts _ c e hb2 (fun x hx => ht x (by simp [hx])) (fun x hx => hp2.1 x hx)]
    have := fld_same b (putF (numOf h u.2.2.1) (u.2.1 : Int)).1 u.1 (by rw [hp.1, hb.len]; exact h1)
    rw [hp.1] at this
    rw [this]
    exact hp.2.2
   ·exact numsP_same h ts _ c e hb2 (fun x hx => ht x (by simp [hx])) hp2.2 u hu
  ·cases e
theorem put_ok12 (x : Int) (hi : x ≤ 4611686018427387904) (h : (putF x 12).2 = true) : (putF x 12).1.length = 12 ∧ Bytes (putF x 12).1 ∧ parseF (putF x 12).1 = (x, true) := put_ok x 12 (.inr rfl) hi h
theorem partsP_blk : ∀ (xs : List S64) (i : Nat) (b c : List Int), partsP xs i b = some c → i + xs.length ≤ 4 → Blk b → Blk c
 | [], i, b, c, e, _, hb => by obtain rfl := Option.some.inj e; exact hb
 | x :: xs, i, b, c, e, hi, hb => by
  rw [List.length_cons] at hi
  unfold partsP at e
  split at e
  ·rename_i h0
   split at e
   ·rename_i h1
    have p0 := put_ok12 _ h0.2.2 h0.1
    have p1 := put_ok12 _ h1.2.2 h1.1
    exact partsP_blk xs (i + 1) _ c e (by omega) ((hb.splice (386 + i * 24) _ p0.2.1 (by rw [p0.1]; omega)).splice (386 + i * 24 + 12) _ p1.2.1 (by rw [p1.1]; omega))
   ·cases e
  ·cases e
theorem partsP_far (a w : Nat) : ∀ (xs : List S64) (i : Nat) (b c : List Int), partsP xs i b = some c → i + xs.length ≤ 4 → Blk b → (a + w ≤ 386 + i * 24 ∨ 386 + (i + xs.length) * 24 ≤ a) → fld c a w = fld b a w
 | [], i, b, c, e, _, hb, _ => by obtain rfl := Option.some.inj e; rfl
 | x :: xs, i, b, c, e, hi, hb, hd => by
  rw [List.length_cons] at hi hd
  unfold partsP at e
  split at e
  ·rename_i h0
   split at e
   ·rename_i h1
    have p0 := put_ok12 _ h0.2.2 h0.1
    have p1 := put_ok12 _ h1.2.2 h1.1
    have b1 := hb.splice (386 + i * 24) _ p0.2.1 (by rw [p0.1]; omega)
    have b2 := b1.splice (386 + i * 24 + 12) _ p1.2.1 (by rw [p1.1]; omega)
    rw [partsP_far a w xs (i + 1) _ c e (by omega) b2 (by omega)]
    rw [fld_far _ _ _ _ _ (by rw [p1.1, b1.len]; omega) (by rw [p1.1]; omega), fld_far _ _ _ _ _ (by rw [p0.1, hb.len]; omega) (by rw [p0.1]; omega)]
   ·cases e
  ·cases e
theorem partsP_same : ∀ (xs : List S64) (i : Nat) (b c : List Int), partsP xs i b = some c → i + xs.length ≤ 4 → Blk b → ∀ (j : Nat) (hj : j < xs.length), 0 ≤ xs[j].f0 ∧ 0 ≤ xs[j].f1 ∧ parseF (fld c (386 + (i + j) * 24) 12) = (xs[j].f0, true) ∧ parseF (fld c (386 + (i + j) * 24 + 12) 12) = (xs[j].f1, true)
 | [], i, b, c, e, _, hb, j, hj => by simp at hj
 | x :: xs, i, b, c, e, hi, hb, j, hj => by
  rw [List.length_cons] at hi
  unfold partsP at e
  split at e
  ·rename_i h0
   split at e
   ·rename_i h1
    have p0 := put_ok12 _ h0.2.2 h0.1
    have p1 := put_ok12 _ h1.2.2 h1.1
    have b1 := hb.splice (386 + i * 24) _ p0.2.1 (by rw [p0.1]; omega)
    have b2 := b1.splice (386 + i * 24 + 12) _ p1.2.1 (by rw [p1.1]; omega)
    cases j with
    | zero =>
     refine ⟨h0.2.1, h1.2.1, ?_, ?_⟩
     ·rw [partsP_far _ _ xs (i + 1) _ c e (by omega) b2 (by omega)]
      rw [fld_far _ _ _ _ _ (by rw [p1.1, b1.len]; omega) (by rw [p1.1]; omega)]
      have := fld_same b (putF x.f0 12).1 (386 + i * 24) (by rw [p0.1, hb.len]; omega)
      rw [p0.1] at this
      rw [Nat.add_zero, this]
      exact p0.2.2
     ·rw [partsP_far _ _ xs (i + 1) _ c e (by omega) b2 (by omega)]
      have := fld_same (splice b (386 + i * 24) (putF x.f0 12).1) (putF x.f1 12).1 (386 + i * 24 + 12) (by rw [p1.1, b1.len]; omega)
      rw [p1.1] at this
      show parseF (fld _ (386 + i * 24 + 12) 12) = _
      rw [this]
      exact p1.2.2
    | succ j =>
     have ih := partsP_same xs (i + 1) _ c e (by omega) b2 j (by simpa using hj)
     rw [show i + (j + 1) = i + 1 + j by omega]
     exact ih
   ·cases e
  ·cases e
end Go.Proofs.YtkfcfbggojmfkaaGreatDoor.P
end

section
namespace Go.Proofs.YtkfcfbggojmfkaaGreatDoor.P
open Go Go.RowKit Go.Proofs.YtkfcfbggojmfkaaGreatDoorW.PrintWords Go.Proofs.YtkfcfbggojmfkaaGreatDoorW.PrintLast Go.Proofs.YtkfcfbggojmfkaaGreatDoorW.PrintMore
set_option linter.unusedVariables false
set_option linter.unusedSimpArgs false

inductive HRes
 | err (n : Int)
 | ok (h : S31)
def valF (l : List Int) (a w : Nat) : Int := (parseF (fld l a w)).1
def okF (l : List Int) (a w : Nat) (lo hi : Int) : Bool := (parseF (fld l a w)).2 && (decide (lo ≤ valF l a w) && decide (valF l a w ≤ hi))
def txtF (l : List Int) (a w : Nat) : ByteArray := strOfNums (cutF (fld l a w))
def numsB (l : List Int) (way : Int) : Bool := okF l 100 8 0 4611686018427387904 && (okF l 108 8 0 4611686018427387904 && (okF l 116 8 0 4611686018427387904 && (okF l 124 12 0 1099511627776 && (okF l 136 12 (-4611686018427387904) 4611686018427387904 && (decide (way = 0) || (okF l 329 8 0 4611686018427387904 && okF l 337 8 0 4611686018427387904))))))
def sparseB (l : List Int) : Bool := (partsR l 386 4).2 && okF l 483 12 0 1099511627776
def hdrF (l : List Int) (way kind : Int) : S31 :=
 ⟨txtF l 0 100, valF l 100 8, valF l 108 8, valF l 116 8, valF l 124 12, valF l 136 12, kind, txtF l 157 100, way, if way = 0 then ByteArray.empty else txtF l 265 32, if way = 0 then ByteArray.empty else txtF l 297 32, if way = 0 then 0 else valF l 329 8, if way = 0 then 0 else valF l 337 8, if way = 1 then txtF l 345 155 else ByteArray.empty, if kind = 83 then (partsR l 386 4).1 else [], if kind = 83 then rd l 482 != 0 else false, if kind = 83 then valF l 483 12 else 0⟩
def parseH (l : List Int) : HRes :=
 if ¬ l.length = 512 then .err 21 else if rightF l = false then .err 30 else if knownB (kindF l) = false then .err 31 else if (wayF l).2 = false then .err 32 else
 if numsB l (wayF l).1 = false then .err 32 else
 if kindF l = 83 then (if (wayF l).1 = 2 then (if sparseB l = true then .ok (hdrF l (wayF l).1 (kindF l)) else .err 32) else .err 31) else .ok (hdrF l (wayF l).1 (kindF l))
theorem ng_ok (l : List Int) (at_ wd idx : Nat) (lo hi : Int) (ts : List (Nat × Nat × Nat × Int × Int)) (cs : Array Value) (hi16 : ¬ idx = 16) (h : okF l at_ wd lo hi = true) : numsGo l ((at_, wd, idx, lo, hi) :: ts) cs = numsGo l ts (cs.setIfInBounds idx (.int .i64 (valF l at_ wd))) := by
 unfold okF at h
 simp only [Bool.and_eq_true, decide_eq_true_eq] at h
 rw [numsGo, if_neg hi16]
 exact if_pos h
theorem ng_not (l : List Int) (at_ wd idx : Nat) (lo hi : Int) (ts : List (Nat × Nat × Nat × Int × Int)) (cs : Array Value) (hi16 : ¬ idx = 16) (h : okF l at_ wd lo hi = false) : numsGo l ((at_, wd, idx, lo, hi) :: ts) cs = none := by
 rw [numsGo, if_neg hi16]
 refine if_neg (fun hc => ?_)
 have h1 : okF l at_ wd lo hi = true := by
  unfold okF
  simp only [Bool.and_eq_true, decide_eq_true_eq]
  exact hc
 rw [h] at h1
 cases h1
theorem ng_16 (l : List Int) (at_ wd : Nat) (lo hi : Int) (ts : List (Nat × Nat × Nat × Int × Int)) (cs : Array Value) : numsGo l ((at_, wd, 16, lo, hi) :: ts) cs = numsGo l ts cs := by
 rw [numsGo]
 exact if_pos rfl
def nums0 (l : List Int) (cs : Array Value) : Array Value := ((((cs.setIfInBounds 1 (.int .i64 (valF l 100 8))).setIfInBounds 2 (.int .i64 (valF l 108 8))).setIfInBounds 3 (.int .i64 (valF l 116 8))).setIfInBounds 4 (.int .i64 (valF l 124 12))).setIfInBounds 5 (.int .i64 (valF l 136 12))
def nums1 (l : List Int) (cs : Array Value) : Array Value := ((nums0 l cs).setIfInBounds 11 (.int .i64 (valF l 329 8))).setIfInBounds 12 (.int .i64 (valF l 337 8))
theorem ng_all (l : List Int) (way kind : Int) (cs : Array Value) : numsGo l (numbersL way kind) cs = if numsB l way = true then some (if way = 0 then nums0 l cs else nums1 l cs) else none := by
 unfold numbersL numsB
 simp only [List.cons_append, List.nil_append]
 cases h1 : okF l 100 8 0 4611686018427387904 with
 | false => rw [ng_not l _ _ _ _ _ _ _ (by decide) h1]; simp
 | true =>
  rw [ng_ok l _ _ _ _ _ _ _ (by decide) h1]
  cases h2 : okF l 108 8 0 4611686018427387904 with
  | false => rw [ng_not l _ _ _ _ _ _ _ (by decide) h2]; simp
  | true =>
   rw [ng_ok l _ _ _ _ _ _ _ (by decide) h2]
   cases h3 : okF l 116 8 0 4611686018427387904 with
   | false => rw [ng_not l _ _ _ _ _ _ _ (by decide) h3]; simp
   | true =>
    rw [ng_ok l _ _ _ _ _ _ _ (by decide) h3]
    cases h4 : okF l 124 12 0 1099511627776 with
    | false => rw [ng_not l _ _ _ _ _ _ _ (by decide) h4]; simp
    | true =>
     rw [ng_ok l _ _ _ _ _ _ _ (by decide) h4]
     cases h5 : okF l 136 12 (-4611686018427387904) 4611686018427387904 with
     | false => rw [ng_not l _ _ _ _ _ _ _ (by decide) h5]; simp
     | true =>
      rw [ng_ok l _ _ _ _ _ _ _ (by decide) h5]
      have hend : ∀ c : Array Value, numsGo l (if kind = 83 then [(483, 12, 16, 0, 1099511627776)] else []) c = some c := fun c => by
       split
       ·rw [ng_16]; rfl
       ·rfl
      by_cases hw : way = 0
      ·rw [if_pos hw, List.nil_append, hend, if_pos hw, if_pos (by simp [hw])]
       rfl
      ·rw [if_neg hw, if_neg hw]
       simp only [List.cons_append, List.nil_append, hw, decide_false, Bool.false_or, Bool.true_and]
       cases h6 : okF l 329 8 0 4611686018427387904 with
       | false => rw [ng_not l _ _ _ _ _ _ _ (by decide) h6]; simp
       | true =>
        rw [ng_ok l _ _ _ _ _ _ _ (by decide) h6]
        cases h7 : okF l 337 8 0 4611686018427387904 with
        | false => rw [ng_not l _ _ _ _ _ _ _ (by decide) h7]; simp
        | true =>
         rw [ng_ok l _ _ _ _ _ _ _ (by decide) h7, hend]
         rfl
theorem way_range (l : List Int) (h : (wayF l).2 = true) : (wayF l).1 = 0 ∨ (wayF l).1 = 1 ∨ (wayF l).1 = 2 := by
 unfold wayF at h ⊢
 split at h
 ·rename_i hl
  rw [if_pos hl]
  split at h
  ·rename_i hi
   rw [if_pos hi]
   rcases idxM_range (strOfNums ((l.take 265).drop 257)) with h | h | h | h <;> omega
  ·cases h
 ·cases h
theorem tx_nil (l : List Int) (cs : Array Value) : textsGo l [] cs = cs := rfl
theorem tx_cons (l : List Int) (t : Nat × Nat × Nat) (ts : List (Nat × Nat × Nat)) (cs : Array Value) : textsGo l (t :: ts) cs = textsGo l ts (cs.setIfInBounds t.2.2 (.string (txtF l t.1 t.2.1))) := rfl
theorem tl0 : textsL 0 = [(0, 100, 0), (157, 100, 7)] := rfl
theorem tl1 : textsL 1 = [(0, 100, 0), (157, 100, 7), (265, 32, 9), (297, 32, 10), (345, 155, 13)] := rfl
theorem tl2 : textsL 2 = [(0, 100, 0), (157, 100, 7), (265, 32, 9), (297, 32, 10)] := rfl
theorem cells_plain (l : List Int) (way kind : Int) (hw : way = 0 ∨ way = 1 ∨ way = 2) (hk : ¬ kind = 83) (v : Value) : (textsGo l (textsL way) (if way = 0 then nums0 l ((cells0 kind).setIfInBounds 8 (.int .i64 way)) else nums1 l ((cells0 kind).setIfInBounds 8 (.int .i64 way)))).setIfInBounds 14 v = cells25 (hdrF l way kind) v := by
 unfold hdrF
 rw [if_neg hk, if_neg hk, if_neg hk]
 rcases hw with rfl | rfl | rfl
 ·rw [tl0]; simp [tx_cons, tx_nil, nums0, cells0, zeroH, cells25]
 ·rw [tl1]; simp [tx_cons, tx_nil, nums0, nums1, cells0, zeroH, cells25]
 ·rw [tl2]; simp [tx_cons, tx_nil, nums0, nums1, cells0, zeroH, cells25]
theorem cells_sparse (l : List Int) (v : Value) : (textsGo l (textsL 2) (((nums1 l ((cells0 83).setIfInBounds 8 (.int .i64 2))).setIfInBounds 16 (.int .i64 (valF l 483 12))).setIfInBounds 15 (.bool (rd l 482 != 0)))).setIfInBounds 14 v = cells25 (hdrF l 2 83) v := by
 unfold hdrF
 rw [tl2]
 simp [tx_cons, tx_nil, nums0, nums1, cells0, zeroH, cells25]
theorem parse_eq (l : List Int) (r : HRes) (hr : parseH l = r) : match r with
  | .err n => parseO l = .err n
  | .ok h => ∃ cs, parseO l = .ok cs h.f14 ∧ ∀ v, cs.setIfInBounds 14 v = cells25 h v := by
 unfold parseH at hr
 by_cases h1 : l.length = 512
 ·rw [if_neg (by omega)] at hr
  cases h2 : rightF l with
  | false =>
   rw [if_pos h2] at hr
   subst hr
   show parseO l = .err 30
   unfold parseO
   rw [if_neg (by omega), if_pos h2]
  | true =>
   rw [if_neg (by rw [h2]; simp)] at hr
   cases h3 : knownB (kindF l) with
   | false =>
    rw [if_pos h3] at hr
    subst hr
    exact po_known h1 h2 h3
   | true =>
    rw [if_neg (by rw [h3]; simp)] at hr
    cases h4 : (wayF l).2 with
    | false =>
     rw [if_pos h4] at hr
     subst hr
     exact po_way h1 h2 h3 h4
    | true =>
     rw [if_neg (by rw [h4]; simp)] at hr
     have hw := way_range l h4
     obtain ⟨way, hway⟩ : ∃ w, w = (wayF l).1 := ⟨_, rfl⟩
     rw [← hway] at hr hw
     have h4' : wayF l = (way, true) := Prod.ext hway.symm h4
     have hng := ng_all l way (kindF l) ((cells0 (kindF l)).setIfInBounds 8 (.int .i64 way))
     cases h5 : numsB l way with
     | false =>
      rw [if_pos h5] at hr
      subst hr
      rw [if_neg (by rw [h5]; simp)] at hng
      exact po_nums h1 h2 h3 h4' hng
     | true =>
      rw [if_neg (by rw [h5]; simp)] at hr
      rw [if_pos h5] at hng
      by_cases h6 : kindF l = 83
      ·rw [if_pos h6] at hr
       by_cases h7 : way = 2
       ·subst h7
        rw [if_pos rfl] at hr
        have hps := po_sparse h1 h2 h3 h4' hng h6
        unfold sparseF at hps
        by_cases h8 : sparseB l = true
        ·rw [if_pos h8] at hr
         subst hr
         unfold sparseB okF at h8
         simp only [Bool.and_eq_true, decide_eq_true_eq] at h8
         rw [if_pos ⟨h8.1, h8.2.1, h8.2.2.1, h8.2.2.2⟩, if_neg (by decide)] at hps
         have e14 : (hdrF l 2 (kindF l)).f14 = (partsR l 386 4).1 := if_pos h6
         rw [← e14] at hps
         refine ⟨_, hps, ?_⟩
         rw [h6]
         exact cells_sparse l
        ·rw [if_neg h8] at hr
         subst hr
         rw [if_neg] at hps
         ·exact hps
         ·intro hc
          apply h8
          unfold sparseB okF
          simp only [Bool.and_eq_true, decide_eq_true_eq]
          exact ⟨hc.1, hc.2.1, hc.2.2.1, hc.2.2.2⟩
       ·rw [if_neg h7] at hr
        subst hr
        exact po_gnu h1 h2 h3 h4' hng h6 h7
      ·rw [if_neg h6] at hr
       subst hr
       have e14 : (hdrF l way (kindF l)).f14 = [] := if_neg h6
       have hpp := po_plain h1 h2 h3 h4' hng h6
       rw [← e14] at hpp
       exact ⟨_, hpp, cells_plain l way (kindF l) hw h6⟩
 ·rw [if_pos h1] at hr
  subst hr
  show parseO l = .err 21
  unfold parseO
  rw [if_pos h1]
end Go.Proofs.YtkfcfbggojmfkaaGreatDoor.P
end

section
namespace Go.Proofs.YtkfcfbggojmfkaaGreatDoor.P
open Go Go.RowKit Go.Proofs.YtkfcfbggojmfkaaGreatDoorW.PrintWords Go.Proofs.YtkfcfbggojmfkaaGreatDoorW.PrintLast Go.Proofs.YtkfcfbggojmfkaaGreatDoorW.PrintMore
set_option linter.unusedVariables false
set_option linter.unusedSimpArgs false

structure Pr (h : S31) (l b1 b2 b3 : List Int) : Prop where
 hk : headKB h = true
 h1 : textsP h (textsL 1) (List.replicate 512 0) = some b1
 hf : headFB h = true
 h2 : numsP h (numbersL h.f8 h.f6) b1 = some b2
 h3 : partsP h.f14 0 b2 = some b3
 hl : l = sealF (finB h b3)
theorem pr_inv {h : S31} {l : List Int} (e : printO h = .ok l) : ∃ b1 b2 b3, Pr h l b1 b2 b3 := by
 unfold printO at e
 split at e
 ·cases e
 ·rename_i hk
  split at e
  ·cases e
  ·rename_i b1 h1
   split at e
   ·cases e
   ·rename_i hf
    split at e
    ·cases e
    ·rename_i b2 h2
     split at e
     ·cases e
     ·rename_i b3 h3
      exact ⟨b1, b2, b3, by simpa using hk, h1, by simpa using hf, h2, h3, (QRes.ok.inj e).symm⟩
section
variable {h : S31} {l b1 b2 b3 : List Int}
theorem Pr.way (p : Pr h l b1 b2 b3) : h.f8 = 0 ∨ h.f8 = 1 ∨ h.f8 = 2 := by
 have := p.hf
 unfold headFB at this
 simp at this
 omega
theorem Pr.len4 (p : Pr h l b1 b2 b3) : h.f14.length ≤ 4 := by
 have := p.hf
 unfold headFB at this
 simp at this
 omega
theorem Pr.known (p : Pr h l b1 b2 b3) : knownB h.f6 = true := by
 have := p.hk
 unfold headKB at this
 simp at this
 exact this.1
theorem Pr.bare (p : Pr h l b1 b2 b3) : bareB h = true := by
 have := p.hf
 unfold headFB at this
 simp only [Bool.and_eq_true] at this
 exact this.1.1.2
theorem Pr.nozero (p : Pr h l b1 b2 b3) : ∀ x ∈ h.f14, zeroPart x = false := by
 have := p.hf
 unfold headFB at this
 simp only [Bool.and_eq_true, Bool.not_eq_true'] at this
 intro x hx
 have h2 := this.2
 rw [List.any_eq_false] at h2
 have h3 := h2 x hx
 simpa using h3
theorem Pr.gnu (p : Pr h l b1 b2 b3) (hs : h.f6 = 83) : h.f8 = 2 := by
 have := p.hk
 unfold headKB at this
 simp at this
 exact this.2.resolve_left (fun hn => hn hs)
theorem Pr.blk1 (p : Pr h l b1 b2 b3) : Blk b1 := textsP_blk h _ _ _ p.h1 Blk.zero textsL_txt
theorem Pr.blk2 (p : Pr h l b1 b2 b3) : Blk b2 := numsP_blk h _ _ _ p.h2 p.blk1 (numbersL_num _ _)
theorem Pr.blk3 (p : Pr h l b1 b2 b3) : Blk b3 := partsP_blk _ _ _ _ p.h3 (by have := p.len4; omega) p.blk2
theorem Pr.blkF (p : Pr h l b1 b2 b3) : Blk (finB h b3) := p.blk3.fin p.known
theorem fin_far {b : List Int} (hb : Blk b) (a w : Nat) (h156 : a + w ≤ 156 ∨ 157 ≤ a) (h257 : a + w ≤ 257 ∨ 265 ≤ a) (h482 : h.f15 = false ∨ a + w ≤ 482 ∨ 483 ≤ a) : fld (finB h b) a w = fld b a w := by
 have h1 : fld (splice (b.set 156 h.f6) 257 (numsL (magicB h.f8))) a w = fld b a w := by
  rw [fld_far _ _ _ _ _ (by rw [magic_len, List.length_set, hb.len]; decide) (by rw [magic_len]; omega), fld_set _ _ _ _ _ (by omega)]
 unfold finB
 split
 ·rename_i h15
  have h4 : a + w ≤ 482 ∨ 483 ≤ a := h482.resolve_left (fun hn => by rw [h15] at hn; cases hn)
  rw [fld_set _ _ _ _ _ (by omega), h1]
 ·exact h1
theorem Pr.far (p : Pr h l b1 b2 b3) (a w : Nat) (h148 : a + w ≤ 148 ∨ 156 ≤ a) (h156 : a + w ≤ 156 ∨ 157 ≤ a) (h257 : a + w ≤ 257 ∨ 265 ≤ a) (h482 : h.f15 = false ∨ a + w ≤ 482 ∨ 483 ≤ a) (hp : h.f14 = [] ∨ a + w ≤ 386 ∨ 386 + h.f14.length * 24 ≤ a) : fld l a w = fld b2 a w := by
 rw [p.hl, fld_seal _ p.blkF.len _ _ h148, fin_far p.blk3 _ _ h156 h257 h482]
 have h3 := p.h3
 rcases hp with hp | hp
 ·rw [hp] at h3
  obtain rfl := Option.some.inj h3
  rfl
 ·exact partsP_far a w _ _ _ _ h3 (by have := p.len4; omega) p.blk2 (by omega)
theorem Pr.length (p : Pr h l b1 b2 b3) : l.length = 512 := by rw [p.hl]; exact sealF_length _
theorem Pr.bytes (p : Pr h l b1 b2 b3) : Bytes l := by rw [p.hl]; exact sealF_bytes _ p.blkF.bytes
theorem Pr.right (p : Pr h l b1 b2 b3) : rightF l = true := by rw [p.hl]; exact right_seal _ p.blkF.bytes
theorem Pr.rd156 (p : Pr h l b1 b2 b3) : rd l 156 = h.f6 := by
 have hb := p.blk3
 have e : l[156]? = some h.f6 := by
  rw [p.hl, seal_get _ p.blkF.len 156 (by omega)]
  unfold finB
  have h1 : (splice (b3.set 156 h.f6) 257 (numsL (magicB h.f8)))[156]? = some h.f6 := by
   rw [splice_get _ _ _ _ (by rw [magic_len, List.length_set, hb.len]; decide) (by omega), List.getElem?_set_self (by rw [hb.len]; decide)]
  split
  ·rw [List.getElem?_set_ne (by decide), h1]
  ·exact h1
 unfold rd
 show l.getD 156 0 = h.f6
 rw [List.getD_eq_getElem?_getD, e]
 rfl
theorem Pr.kind (p : Pr h l b1 b2 b3) : kindF l = h.f6 := by
 have hn : ¬ h.f6 = 0 := fun h0 => by
  have := p.known
  rw [h0] at this
  exact absurd this (by decide)
 unfold kindF
 rw [p.rd156, if_neg hn]
theorem idx_back : idxM (magicB 0) = 0 ∧ idxM (magicB 1) = 1 ∧ idxM (magicB 2) = 2 := by decide +kernel
theorem Pr.wayF (p : Pr h l b1 b2 b3) : wayF l = (h.f8, true) := by
 have hb := p.blk3
 have e : (l.take 265).drop 257 = numsL (magicB h.f8) := by
  show fld l 257 8 = _
  rw [p.hl, fld_seal _ p.blkF.len _ _ (by omega)]
  have h1 : fld (splice (b3.set 156 h.f6) 257 (numsL (magicB h.f8))) 257 8 = numsL (magicB h.f8) := by
   have := fld_same (b3.set 156 h.f6) (numsL (magicB h.f8)) 257 (by rw [magic_len, List.length_set, hb.len]; decide)
   rw [magic_len] at this
   exact this
  unfold finB
  split
  ·rw [fld_set _ _ _ _ _ (by omega), h1]
  ·exact h1
 unfold Go.Proofs.YtkfcfbggojmfkaaGreatDoor.P.wayF
 rw [if_pos p.length, e, nums_str]
 rcases p.way with h0 | h0 | h0
 ·rw [h0, idx_back.1]; rfl
 ·rw [h0, idx_back.2.1]; rfl
 ·rw [h0, idx_back.2.2]; rfl
theorem num_places (way kind : Int) : ∀ t ∈ numbersL way kind, (t.1 + t.2.1 ≤ 148 ∨ 156 ≤ t.1) ∧ (t.1 + t.2.1 ≤ 156 ∨ 157 ≤ t.1) ∧ (t.1 + t.2.1 ≤ 257 ∨ 265 ≤ t.1) ∧ (t.1 + t.2.1 ≤ 482 ∨ 483 ≤ t.1) ∧ (t.1 + t.2.1 ≤ 386 ∨ 482 ≤ t.1) := by
 intro t ht
 unfold numbersL at ht
 simp only [List.mem_append, List.mem_cons, List.mem_nil_iff, or_false] at ht
 rcases ht with (ht | ht) | ht
 ·rcases ht with rfl | rfl | rfl | rfl | rfl <;> decide
 ·split at ht
  ·cases ht
  ·simp only [List.mem_cons, List.mem_nil_iff, or_false] at ht
   rcases ht with rfl | rfl <;> decide
 ·split at ht
  ·simp only [List.mem_cons, List.mem_nil_iff, or_false] at ht
   subst ht
   decide
  ·cases ht
theorem num_at (way kind : Int) : ∀ t ∈ numbersL way kind, (t.1 = 100 ∧ t.2.1 = 8) ∨ (t.1 = 108 ∧ t.2.1 = 8) ∨ (t.1 = 116 ∧ t.2.1 = 8) ∨ (t.1 = 124 ∧ t.2.1 = 12) ∨ (t.1 = 136 ∧ t.2.1 = 12) ∨ (t.1 = 329 ∧ t.2.1 = 8) ∨ (t.1 = 337 ∧ t.2.1 = 8) ∨ (kind = 83 ∧ t.1 = 483 ∧ t.2.1 = 12) := by
 intro t ht
 unfold numbersL at ht
 simp only [List.mem_append, List.mem_cons, List.mem_nil_iff, or_false] at ht
 rcases ht with (ht | ht) | ht
 ·rcases ht with rfl | rfl | rfl | rfl | rfl <;> simp
 ·split at ht
  ·cases ht
  ·simp only [List.mem_cons, List.mem_nil_iff, or_false] at ht
   rcases ht with rfl | rfl <;> simp
 ·split at ht
  ·rename_i hk
   simp only [List.mem_cons, List.mem_nil_iff, or_false] at ht
   subst ht
   simp [hk]
  ·cases ht
theorem num_pair (way kind : Int) : (numbersL way kind).Pairwise (fun t u => Apart t.1 t.2.1 u.1 u.2.1) := by
 unfold numbersL
 split <;> split <;> decide
theorem Pr.num (p : Pr h l b1 b2 b3) {t : Nat × Nat × Nat × Int × Int} (ht : t ∈ numbersL h.f8 h.f6) : parseF (fld l t.1 t.2.1) = (numOf h t.2.2.1, true) ∧ t.2.2.2.1 ≤ numOf h t.2.2.1 ∧ numOf h t.2.2.1 ≤ t.2.2.2.2 := by
 obtain ⟨q1, q2, q3, q4, q5⟩ := num_places _ _ t ht
 have hs := numsP_same h _ _ _ p.h2 p.blk1 (numbersL_num _ _) (num_pair _ _) t ht
 rw [p.far _ _ q1 q2 q3 (.inr q4) (.inr (by have := p.len4; omega))]
 exact ⟨hs.2, hs.1.2.1, hs.1.2.2⟩
theorem Pr.numV (p : Pr h l b1 b2 b3) {a w idx : Nat} {lo hi : Int} (ht : (a, w, idx, lo, hi) ∈ numbersL h.f8 h.f6) : valF l a w = numOf h idx ∧ okF l a w lo hi = true := by
 have hn := p.num ht
 have hv : valF l a w = numOf h idx := by unfold valF; rw [hn.1]
 refine ⟨hv, ?_⟩
 unfold okF
 rw [hv, hn.1]
 simp only [Bool.true_and, Bool.and_eq_true, decide_eq_true_eq]
 exact hn.2
theorem zeros_fld (a w : Nat) (h : a + w ≤ 512) : fld (List.replicate 512 (0 : Int)) a w = List.replicate w 0 := by
 unfold fld
 rw [List.take_replicate, List.drop_replicate]
 congr 1
 omega
theorem empty_str {s : ByteArray} (h : s.toList = []) : s = ByteArray.empty := by
 rw [ByteArray.toList_eq] at h
 cases s with
 | mk d =>
  have : d = #[] := Array.toList_eq_nil_iff.1 h
  rw [this]
  rfl
theorem txt_back (s : ByteArray) (wd : Nat) (h : (sputF s (wd : Int)).2 = true) : strOfNums (cutF (sputF s (wd : Int)).1) = s := by
 unfold sputF at h ⊢
 split at h
 ·cases h
 ·rename_i hc
  rw [if_neg hc]
  have hz : ∀ x ∈ numsL s, x ≠ 0 := by
   rcases ix_split s with hx | hx
   ·exact absurd (.inr hx.1) hc
   ·exact hx.2
  show strOfNums (cutF (numsL s ++ List.replicate _ 0)) = s
  rw [cutF_app _ _ hz, cutF_zeros, List.append_nil, nums_str]
theorem txt_pair : ∀ t ∈ textsL 1, ∀ u ∈ textsL 1, u = t ∨ Apart t.1 t.2.1 u.1 u.2.1 := by decide
theorem Pr.txt1 (p : Pr h l b1 b2 b3) {t : Nat × Nat × Nat} (ht : t ∈ textsL 1) : strOfNums (cutF (fld b1 t.1 t.2.1)) = txtOf h t.2.2 := by
 have hs := textsP_same h _ _ _ p.h1 Blk.zero textsL_txt (by decide) t ht
 by_cases he : (txtOf h t.2.2).toList = []
 ·rw [textsP_far h t.1 t.2.1 _ _ _ p.h1 Blk.zero textsL_txt (fun u hu => by
   rcases txt_pair t ht u hu with rfl | h
   ·exact .inl he
   ·exact .inr h), zeros_fld _ _ (textsL_txt t ht).1, cutF_zeros, empty_str he]
  rfl
 ·rw [hs.2 he]
  exact txt_back _ _ hs.1
theorem Pr.txt (p : Pr h l b1 b2 b3) {a w idx : Nat} (ht : (a, w, idx) ∈ textsL 1) (hc : (h.f14 = [] ∧ h.f15 = false ∧ ¬ h.f6 = 83) ∨ a + w ≤ 386) : txtF l a w = txtOf h idx := by
 have h1 := p.txt1 ht
 have hm : (a, w, idx) = (0, 100, 0) ∨ (a, w, idx) = (157, 100, 7) ∨ (a, w, idx) = (265, 32, 9) ∨ (a, w, idx) = (297, 32, 10) ∨ (a, w, idx) = (345, 155, 13) := by
  rw [tl1] at ht
  simpa using ht
 have hf : fld l a w = fld b2 a w := by
  refine p.far a w ?_ ?_ ?_ ?_ ?_
  ·rcases hm with h | h | h | h | h <;> (simp only [Prod.mk.injEq] at h; omega)
  ·rcases hm with h | h | h | h | h <;> (simp only [Prod.mk.injEq] at h; omega)
  ·rcases hm with h | h | h | h | h <;> (simp only [Prod.mk.injEq] at h; omega)
  ·rcases hc with hc | hc
   ·exact .inl hc.2.1
   ·exact .inr (.inl (by omega))
  ·rcases hc with hc | hc
   ·exact .inl hc.1
   ·exact .inr (.inl hc)
 have hn : fld b2 a w = fld b1 a w := by
  refine numsP_far h a w _ _ _ p.h2 p.blk1 (numbersL_num _ _) ?_
  intro t htn
  have hd1 := num_at _ _ t htn
  unfold Apart
  rcases hm with h | h | h | h | h <;> (simp only [Prod.mk.injEq] at h; omega)
 unfold txtF
 rw [hf, hn]
 exact h1
theorem drop_fld (l : List Int) (a w : Nat) : (l.drop a).take w = fld l a w := by
 apply List.ext_getElem?
 intro j
 rw [fld_get]
 split
 ·rename_i hj
  rw [List.getElem?_take_of_lt hj, List.getElem?_drop]
 ·rw [List.getElem?_eq_none (by rw [List.length_take]; omega)]
theorem drop_fld2 (l : List Int) (a w v : Nat) : ((l.drop a).take (w + v)).drop w = fld l (a + w) v := by
 rw [drop_fld]
 apply List.ext_getElem?
 intro j
 rw [List.getElem?_drop, fld_get, fld_get]
 by_cases hj : j < v
 ·rw [if_pos (by omega), if_pos hj]
  congr 1
  omega
 ·rw [if_neg (by omega), if_neg hj]
theorem parse_zeros : parseF (List.replicate 12 0) = (0, true) := by decide +kernel
theorem Pr.fpart (p : Pr h l b1 b2 b3) (j : Nat) (hj : j < h.f14.length) : 0 ≤ h.f14[j].f0 ∧ 0 ≤ h.f14[j].f1 ∧ parseF (fld l (386 + j * 24) 12) = (h.f14[j].f0, true) ∧ parseF (fld l (386 + j * 24 + 12) 12) = (h.f14[j].f1, true) := by
 have h4 := p.len4
 have hs := partsP_same _ _ _ _ p.h3 (by omega) p.blk2 j hj
 rw [Nat.zero_add] at hs
 have e0 : fld l (386 + j * 24) 12 = fld b3 (386 + j * 24) 12 := by rw [p.hl, fld_seal _ p.blkF.len _ _ (by omega), fin_far p.blk3 _ _ (by omega) (by omega) (by omega)]
 have e1 : fld l (386 + j * 24 + 12) 12 = fld b3 (386 + j * 24 + 12) 12 := by rw [p.hl, fld_seal _ p.blkF.len _ _ (by omega), fin_far p.blk3 _ _ (by omega) (by omega) (by omega)]
 rw [e0, e1]
 exact hs
theorem Pr.fzero (p : Pr h l b1 b2 b3) (hk : h.f6 = 83) (a w : Nat) (h1 : 386 + h.f14.length * 24 ≤ a) (h2 : a + w ≤ 482 ∨ h.f15 = false ∧ a + w ≤ 483) : fld l a w = List.replicate w 0 := by
 rw [p.far a w (by omega) (by omega) (by omega) (h2.elim (fun q => .inr (.inl q)) (fun q => .inl q.1)) (.inr (.inr h1))]
 rw [numsP_far h a w _ _ _ p.h2 p.blk1 (numbersL_num _ _) (fun t ht => by
  have hb := num_at _ _ t ht
  unfold Apart
  omega)]
 rw [textsP_far h a w _ _ _ p.h1 Blk.zero textsL_txt (fun t ht => by
  rw [tl1] at ht
  simp only [List.mem_cons, List.mem_nil_iff, or_false] at ht
  rcases ht with rfl | rfl | rfl | rfl | rfl
  ·exact .inr (by unfold Apart; show a + w ≤ 0 ∨ 0 + 100 ≤ a; omega)
  ·exact .inr (by unfold Apart; show a + w ≤ 157 ∨ 157 + 100 ≤ a; omega)
  ·exact .inr (by unfold Apart; show a + w ≤ 265 ∨ 265 + 32 ≤ a; omega)
  ·exact .inr (by unfold Apart; show a + w ≤ 297 ∨ 297 + 32 ≤ a; omega)
  ·refine .inl ?_
   have hb := p.bare
   unfold bareB bareP at hb
   rw [p.gnu hk] at hb
   simp [noneS] at hb
   exact hb.1.2)]
 exact zeros_fld _ _ (by omega)
theorem Pr.partsM (p : Pr h l b1 b2 b3) (hk : h.f6 = 83) : ∀ (n i : Nat) (out : List S64), i + n = 4 → i ≤ h.f14.length → partsM n (l.drop (386 + i * 24)) out = (out ++ h.f14.drop i, true)
 | 0, i, out, hn, hi => by
  have := p.len4
  have hd : h.f14.drop i = [] := List.drop_eq_nil_of_le (by omega)
  rw [hd, List.append_nil]
  rfl
 | n + 1, i, out, hn, hi => by
  have h4 := p.len4
  unfold Go.Proofs.YtkfcfbggojmfkaaGreatDoor.P.partsM
  rw [if_neg (by rw [List.length_drop, p.length]; omega), drop_fld, show (24 : Nat) = 12 + 12 from rfl, drop_fld2]
  by_cases hlt : i < h.f14.length
  ·obtain ⟨q0, q1, e0, e1⟩ := p.fpart i hlt
   rw [e0, e1]
   have hz := p.nozero h.f14[i] (List.getElem_mem hlt)
   unfold zeroPart at hz
   simp only [Bool.and_eq_false_iff, beq_eq_false_iff_ne, ne_eq] at hz
   rw [if_pos ⟨rfl, rfl, q0, q1⟩, if_neg (by intro hh; rcases hz with hz | hz; exact hz hh.1; exact hz hh.2), List.drop_drop]
   have ih := Pr.partsM p hk n (i + 1) (out ++ [⟨h.f14[i].f0, h.f14[i].f1⟩]) (by omega) (by omega)
   rw [show 386 + i * 24 + (12 + 12) = 386 + (i + 1) * 24 by omega, ih, List.append_assoc, List.drop_eq_getElem_cons hlt]
   rfl
  ·rw [p.fzero hk _ _ (by omega) (by omega), p.fzero hk _ _ (by omega) (by omega), parse_zeros]
   rw [if_pos ⟨rfl, rfl, by decide, by decide⟩, if_pos ⟨rfl, rfl⟩, List.drop_eq_nil_of_le (by omega), List.append_nil]
theorem Pr.parts (p : Pr h l b1 b2 b3) (hk : h.f6 = 83) : partsR l 386 4 = (h.f14, true) := by
 have := p.partsM hk 4 0 [] rfl (Nat.zero_le _)
 exact this
theorem Pr.more (p : Pr h l b1 b2 b3) (hk : h.f6 = 83) : (rd l 482 != 0) = h.f15 := by
 cases h15 : h.f15 with
 | false =>
  have hz := p.fzero hk 482 1 (by have := p.len4; omega) (.inr ⟨h15, by decide⟩)
  have e : l[482]? = some 0 := by
   have := congrArg (fun x => x[0]?) hz
   simp only [fld_get] at this
   simpa using this
  unfold rd
  show (l.getD 482 0 != 0) = false
  rw [List.getD_eq_getElem?_getD, e]
  rfl
 | true =>
  have e : l[482]? = some 1 := by
   rw [p.hl, seal_get _ p.blkF.len 482 (by omega)]
   unfold finB
   rw [if_pos h15, List.getElem?_set_self (by rw [length_splice _ _ _ (by rw [magic_len, List.length_set, p.blk3.len]; decide), List.length_set, p.blk3.len]; decide)]
  unfold rd
  show (l.getD 482 0 != 0) = true
  rw [List.getD_eq_getElem?_getD, e]
  rfl
end
theorem mem_num (way kind : Int) : (100, 8, 1, (0 : Int), (4611686018427387904 : Int)) ∈ numbersL way kind ∧ (108, 8, 2, (0 : Int), (4611686018427387904 : Int)) ∈ numbersL way kind ∧ (116, 8, 3, (0 : Int), (4611686018427387904 : Int)) ∈ numbersL way kind ∧ (124, 12, 4, (0 : Int), (1099511627776 : Int)) ∈ numbersL way kind ∧ (136, 12, 5, (-4611686018427387904 : Int), (4611686018427387904 : Int)) ∈ numbersL way kind := by
 unfold numbersL
 simp
theorem mem_num1 (way kind : Int) (hw : ¬ way = 0) : (329, 8, 11, (0 : Int), (4611686018427387904 : Int)) ∈ numbersL way kind ∧ (337, 8, 12, (0 : Int), (4611686018427387904 : Int)) ∈ numbersL way kind := by
 unfold numbersL
 simp [hw]
theorem mem_num2 (way : Int) : (483, 12, 16, (0 : Int), (1099511627776 : Int)) ∈ numbersL way 83 := by
 unfold numbersL
 simp
theorem print_parse {h : S31} {l : List Int} (e : printO h = .ok l) : parseH l = .ok h := by
 obtain ⟨b1, b2, b3, p⟩ := pr_inv e
 obtain ⟨m1, m2, m3, m4, m5⟩ := mem_num h.f8 h.f6
 have v1 := p.numV m1
 have v2 := p.numV m2
 have v3 := p.numV m3
 have v4 := p.numV m4
 have v5 := p.numV m5
 have hb := p.bare
 unfold bareB bareV bareP bareS at hb
 have hn : numsB l h.f8 = true := by
  unfold numsB
  rw [v1.2, v2.2, v3.2, v4.2, v5.2]
  by_cases hw : h.f8 = 0
  ·rw [decide_eq_true hw]; rfl
  ·rw [(p.numV (mem_num1 _ _ hw).1).2, (p.numV (mem_num1 _ _ hw).2).2]
   simp
 unfold parseH
 rw [if_neg (by rw [p.length]; simp), if_neg (by rw [p.right]; simp), p.kind, if_neg (by rw [p.known]; simp), p.wayF, if_neg (by simp)]
 simp only []
 rw [if_neg (by rw [hn]; simp)]
 have t0 := p.txt (a := 0) (w := 100) (idx := 0) (by decide) (.inr (by decide))
 have t7 := p.txt (a := 157) (w := 100) (idx := 7) (by decide) (.inr (by decide))
 have t9 := p.txt (a := 265) (w := 32) (idx := 9) (by decide) (.inr (by decide))
 have t10 := p.txt (a := 297) (w := 32) (idx := 10) (by decide) (.inr (by decide))
 have hfin : (h.f6 = 83 → sparseB l = true ∧ h.f8 = 2) ∧ hdrF l h.f8 h.f6 = h := by
  obtain ⟨f0, f1, f2, f3, f4, f5, f6, f7, f8, f9, f10, f11, f12, f13, f14, f15, f16⟩ := h
  simp only [noneS, Bool.and_eq_true, Bool.not_eq_true', Bool.and_eq_false_iff, Bool.or_eq_false_iff, Bool.or_eq_true, decide_eq_true_eq, beq_iff_eq, bne_eq_false_iff_eq, beq_eq_false_iff_ne, Bool.not_eq_false', ne_eq, List.length_eq_zero_iff] at hb
  obtain ⟨⟨hv, hpre⟩, hsp⟩ := hb
  change valF l 100 8 = f1 ∧ _ at v1
  change valF l 108 8 = f2 ∧ _ at v2
  change valF l 116 8 = f3 ∧ _ at v3
  change valF l 124 12 = f4 ∧ _ at v4
  change valF l 136 12 = f5 ∧ _ at v5
  change txtF l 0 100 = f0 at t0
  change txtF l 157 100 = f7 at t7
  change txtF l 265 32 = f9 at t9
  change txtF l 297 32 = f10 at t10
  have e9 : (if f8 = 0 then ByteArray.empty else txtF l 265 32) = f9 := by
   split
   ·rename_i h0
    exact (empty_str (hv.resolve_left (fun hn => hn h0)).1.1.1).symm
   ·exact t9
  have e10 : (if f8 = 0 then ByteArray.empty else txtF l 297 32) = f10 := by
   split
   ·rename_i h0
    exact (empty_str (hv.resolve_left (fun hn => hn h0)).1.1.2).symm
   ·exact t10
  have e11 : (if f8 = 0 then 0 else valF l 329 8) = f11 := by
   split
   ·rename_i h0
    exact (hv.resolve_left (fun hn => hn h0)).1.2.symm
   ·rename_i h0
    exact (p.numV (mem_num1 _ _ h0).1).1
  have e12 : (if f8 = 0 then 0 else valF l 337 8) = f12 := by
   split
   ·rename_i h0
    exact (hv.resolve_left (fun hn => hn h0)).2.symm
   ·rename_i h0
    exact (p.numV (mem_num1 _ _ h0).2).1
  by_cases h6 : f6 = 83
  ·have hg : f8 = 2 := p.gnu h6
   subst h6
   have hq := p.parts rfl
   have hm := p.more rfl
   have hr := p.numV (mem_num2 f8)
   have e13 : (if f8 = 1 then txtF l 345 155 else ByteArray.empty) = f13 := by
    rw [if_neg (by omega)]
    exact (empty_str (hpre.resolve_left (by omega))).symm
   refine ⟨fun _ => ⟨by unfold sparseB; rw [hq, hr.2]; rfl, hg⟩, ?_⟩
   show hdrF l f8 83 = _
   unfold hdrF
   rw [e9, e10, e11, e12, e13, t0, t7, v1.1, v2.1, v3.1, v4.1, v5.1, if_pos rfl, if_pos rfl, if_pos rfl, hq, hm, hr.1]
   rfl
  ·have hs2 := hsp.resolve_left h6
   obtain ⟨⟨q14, q15⟩, q16⟩ := hs2
   have e13 : (if f8 = 1 then txtF l 345 155 else ByteArray.empty) = f13 := by
    split
    ·exact p.txt (a := 345) (w := 155) (idx := 13) (by decide) (.inl ⟨q14, q15, h6⟩)
    ·rename_i h1
     exact (empty_str (hpre.resolve_left h1)).symm
   refine ⟨fun hh => absurd hh h6, ?_⟩
   show hdrF l f8 f6 = _
   unfold hdrF
   rw [e9, e10, e11, e12, e13, t0, t7, v1.1, v2.1, v3.1, v4.1, v5.1, if_neg h6, if_neg h6, if_neg h6, q14, q15, q16]
 by_cases h6 : h.f6 = 83
 ·rw [if_pos h6, if_pos (hfin.1 h6).2, if_pos (hfin.1 h6).1, hfin.2]
 ·rw [if_neg h6, hfin.2]
end Go.Proofs.YtkfcfbggojmfkaaGreatDoor.P
end
