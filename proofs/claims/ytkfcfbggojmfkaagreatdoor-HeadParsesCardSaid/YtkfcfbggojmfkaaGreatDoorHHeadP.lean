/- head.parse: what it hands back of every block, or with which error it panics. Its condition: head.magic holds what its text lays. -/
import Derived.Test.YtkfcfbggojmfkaaGreatDoorHHeadY
import Derived.Test.YtkfcfbggojmfkaaGreatDoorHHeadT
import Derived.Test.YtkfcfbggojmfkaaGreatDoorHSealP
import Derived.Test.YtkfcfbggojmfkaaGreatDoorHPut
import Derived.Test.YtkfcfbggojmfkaaGreatDoorPx2
import Derived.Deep.CutRange
import Derived.LaidEqlPtr
import Derived.Deep.DeepCutAuto
namespace Go.Proofs.YtkfcfbggojmfkaaGreatDoor.P
open Go Go.RowKit Go.Proofs.YtkfcfbggojmfkaaGreatDoorW.PrintWords Go.Proofs.YtkfcfbggojmfkaaGreatDoorW.PrintLast Go.Proofs.YtkfcfbggojmfkaaGreatDoorW.PrintMore
set_option linter.unusedVariables false
set_option linter.unusedSimpArgs false

def kindF (l : List Int) : Int := if rd l 156 = 0 then 48 else rd l 156
def knownB (x : Int) : Bool := (decide (48 ≤ x) && decide (x ≤ 55)) || (decide (x = 83) || (decide (x = 120) || (decide (x = 103) || (decide (x = 76) || decide (x = 75)))))
theorem Contains_eq (x : Int) : slices_Contains_byte_byte.f 6 ([83, 120, 103, 76, 75] : List Int) x = some (decide (x = 83) || (decide (x = 120) || (decide (x = 103) || (decide (x = 76) || decide (x = 75))))) := by
 have e1 : wrap64 ((0 : Int) + 1) = 1 := by unfold wrap64; omega
 have e2 : wrap64 ((1 : Int) + 1) = 2 := by unfold wrap64; omega
 have e3 : wrap64 ((2 : Int) + 1) = 3 := by unfold wrap64; omega
 have e4 : wrap64 ((3 : Int) + 1) = 4 := by unfold wrap64; omega
 have e5 : wrap64 ((4 : Int) + 1) = 5 := by unfold wrap64; omega
 have r0 : rd ([83, 120, 103, 76, 75] : List Int) 0 = 83 := rfl
 have r1 : rd ([83, 120, 103, 76, 75] : List Int) 1 = 120 := rfl
 have r2 : rd ([83, 120, 103, 76, 75] : List Int) 2 = 103 := rfl
 have r3 : rd ([83, 120, 103, 76, 75] : List Int) 3 = 76 := rfl
 have r4 : rd ([83, 120, 103, 76, 75] : List Int) 4 = 75 := rfl
 have hl : ((([83, 120, 103, 76, 75] : List Int).length : Nat) : Int) = 5 := rfl
 unfold slices_Contains_byte_byte.f slices_Index_byte_byte.f
 simp only [slices_Index_byte_byte.l0, hl, e1, e2, e3, e4, e5, r0, r1, r2, r3, r4, Int.reduceLT, Int.reduceLE, if_true, if_false]
 by_cases h0 : x = 83
 ·simp [h0]
 ·by_cases h1 : x = 120
  ·simp [h1]
  ·by_cases h2 : x = 103
   ·simp [h2]
   ·by_cases h3 : x = 76
    ·simp [h3]
    ·by_cases h4 : x = 75
     ·simp [h4]
     ·simp [h0, h1, h2, h3, h4]
theorem Known_eq (x : Int) : head_Known.f 6 x = some (knownB x) := by
 unfold head_Known.f knownB
 rw [Contains_eq]
 by_cases h0 : 48 ≤ x
 ·by_cases h1 : x ≤ 55
  ·rw [if_pos h0, if_pos h1, decide_eq_true h0, decide_eq_true h1]; rfl
  ·rw [if_pos h0, if_neg h1, decide_eq_true h0, decide_eq_false h1]; rfl
 ·rw [if_neg h0, decide_eq_false h0]; rfl
def cells0 (k : Int) : Array Value := zeroH.setIfInBounds 6 (.int .u8 k)
inductive PRes
 | err (n : Int)
 | ok (cs : Array Value) (parts : List S64)
def fieldF (l : List Int) (at_ wide : Nat) : Int × Bool := parseF ((l.take (at_ + wide)).drop at_)
def numsGo (l : List Int) : List (Nat × Nat × Nat × Int × Int) → Array Value → Option (Array Value)
 | [], cs => some cs
 | t :: ts, cs => if t.2.2.1 = 16 then numsGo l ts cs else if (fieldF l t.1 t.2.1).2 = true ∧ t.2.2.2.1 ≤ (fieldF l t.1 t.2.1).1 ∧ (fieldF l t.1 t.2.1).1 ≤ t.2.2.2.2 then numsGo l ts (cs.setIfInBounds t.2.2.1 (.int .i64 (fieldF l t.1 t.2.1).1)) else none
def textsGo (l : List Int) : List (Nat × Nat × Nat) → Array Value → Array Value
 | [], cs => cs
 | t :: ts, cs => textsGo l ts (cs.setIfInBounds t.2.2 (.string (strOfNums (cutF ((l.take (t.1 + t.2.1)).drop t.1)))))
def sparseF (l : List Int) (cs : Array Value) : PRes :=
 if (partsR l 386 4).2 = true ∧ (fieldF l 483 12).2 = true ∧ 0 ≤ (fieldF l 483 12).1 ∧ (fieldF l 483 12).1 ≤ 1099511627776 then
  .ok (textsGo l (textsL 2) ((cs.setIfInBounds 16 (.int .i64 (fieldF l 483 12).1)).setIfInBounds 15 (.bool (rd l 482 != 0)))) (partsR l 386 4).1
 else .err 32
def parseO (l : List Int) : PRes :=
 if ¬ l.length = 512 then .err 21 else if rightF l = false then .err 30 else if knownB (kindF l) = false then .err 31 else if (wayF l).2 = false then .err 32 else
 match numsGo l (numbersL (wayF l).1 (kindF l)) ((cells0 (kindF l)).setIfInBounds 8 (.int .i64 (wayF l).1)) with
 | none => .err 32
 | some cs => if kindF l = 83 then (if (wayF l).1 = 2 then sparseF l cs else .err 31) else .ok (textsGo l (textsL (wayF l).1) cs) []
def ParsePost (l : List Int) (w : World) (e : Ending) (w' : World) : Prop :=
 Below w.heap.size w w' ∧ match parseO l with
 | .err n => e = .panicked [pan n false]
 | .ok cs p => ∃ v, e = .returned (.agg (cs.setIfInBounds 14 v)) ∧ Kd.R k64 64 w' w.heap.size (fun _ => True) v p
theorem own_open {W : World} {base e size n : Nat} {v : Value} {xs : List Value} (h : W.ownsRow base e size v n xs) (hn : 0 < n) : ∃ b cap cur, v = .slice (some ⟨b, 0, none⟩) n cap ∧ base ≤ b ∧ n ≤ cap ∧ W.heap[b]? = some (.cells cur e (0, 0)) ∧ ∀ (j : Nat) u, xs[j]? = some u → cur[j]? = some u := by
 obtain ⟨hl, h2⟩ := h
 rcases h2 with ⟨rfl, h2⟩ | ⟨g, cap, cur, rfl, hg, hb, hc, hm, hs, ht⟩
 ·exact absurd hn (by cases h2; simp at hl ⊢)
 ·refine ⟨g, cap, cur, rfl, hg, hc, hb, fun j u hj => ?_⟩
  rw [← ht, List.getElem?_take] at hj
  split at hj
  ·simpa using hj
  ·cases hj
theorem flat_get (g : Nat) : ∀ (E : List (Nat × Nat × Nat × Int × Int)) (i : Nat) (h : i < E.length) (j : Nat), j < 5 → ((E.map (ncell g)).flatten)[i * 5 + j]? = (ncell g E[i])[j]?
 | [], i, h, _, _ => absurd h (by simp)
 | t :: E, 0, h, j, hj => by
  rw [List.map_cons, List.flatten_cons, List.getElem?_append_left (by simp [ncell]; omega)]
  simp
 | t :: E, i + 1, h, j, hj => by
  have ih := flat_get g E i (by simpa using h) j hj
  rw [List.map_cons, List.flatten_cons, List.getElem?_append_right (by simp [ncell]; omega)]
  rw [show (i + 1) * 5 + j - (ncell g t).length = i * 5 + j by simp [ncell]; omega, ih]
  rfl
def EntOk (t : Nat × Nat × Nat × Int × Int) : Prop := t.1 + t.2.1 ≤ 512 ∧ t.2.2.1 < 17 ∧ t.2.2.1 ≠ 8 ∧ t.2.2.1 ≠ 6 ∧ t.2.2.1 ≠ 14
theorem numbersL_ok (way kind : Int) : ∀ t ∈ numbersL way kind, EntOk t := by
 intro t ht
 unfold numbersL at ht
 simp only [List.mem_append, List.mem_cons, List.mem_nil_iff, or_false] at ht
 unfold EntOk
 rcases ht with (ht | ht) | ht
 ·rcases ht with rfl | rfl | rfl | rfl | rfl <;> decide
 ·split at ht
  ·cases ht
  ·simp only [List.mem_cons, List.mem_nil_iff, or_false] at ht
   rcases ht with rfl | rfl <;> decide
 ·split at ht
  ·simp only [List.mem_cons, List.mem_nil_iff, or_false] at ht
   subst ht
   decide
  ·cases ht
theorem flat_get3 (g : Nat) : ∀ (E : List (Nat × Nat × Nat)) (i : Nat) (h : i < E.length) (j : Nat), j < 3 → ((E.map (tcell g)).flatten)[i * 3 + j]? = (tcell g E[i])[j]?
 | [], i, h, _, _ => absurd h (by simp)
 | t :: E, 0, h, j, hj => by
  rw [List.map_cons, List.flatten_cons, List.getElem?_append_left (by simp [tcell]; omega)]
  simp
 | t :: E, i + 1, h, j, hj => by
  have ih := flat_get3 g E i (by simpa using h) j hj
  rw [List.map_cons, List.flatten_cons, List.getElem?_append_right (by simp [tcell]; omega)]
  rw [show (i + 1) * 3 + j - (tcell g t).length = i * 3 + j by simp [tcell]; omega, ih]
  rfl
def TextOk (t : Nat × Nat × Nat) : Prop := t.1 + t.2.1 ≤ 512 ∧ t.2.2 < 17 ∧ t.2.2 ≠ 14
theorem textsL_ok (way : Int) : ∀ t ∈ textsL way, TextOk t := by
 intro t ht
 unfold textsL at ht
 simp only [List.mem_append, List.mem_cons, List.mem_nil_iff, or_false] at ht
 unfold TextOk
 rcases ht with (ht | ht) | ht
 ·rcases ht with rfl | rfl <;> decide
 ·split at ht
  ·cases ht
  ·simp only [List.mem_cons, List.mem_nil_iff, or_false] at ht
   rcases ht with rfl | rfl <;> decide
 ·split at ht
  ·simp only [List.mem_cons, List.mem_nil_iff, or_false] at ht
   subst ht
   decide
  ·cases ht
theorem numbersL_pos (way kind : Int) : 0 < (numbersL way kind).length := by unfold numbersL; simp
theorem far_cell {W : World} {g i bx k : Nat} {v u : Value} (h : W.cell? ⟨bx, k, none⟩ = some u) (hne : ¬ bx = g) : (W.setCell ⟨g, i, none⟩ v).cell? ⟨bx, k, none⟩ = some u := by
 unfold World.cell? at h ⊢
 rw [Below.heap_setCell W ⟨g, i, none⟩ v bx hne]
 exact h
theorem need_ok2 (n : Int) (w : World) : Calls Tryz.prog 57 #[.bool true, .int .u16 n] w fun e w' => e = .returned (.tuple #[]) ∧ w = w' := (need_ok n w).mono fun _ _ h => ⟨h.1, h.2.symm⟩
theorem need_not2 (n : Int) (w : World) : Calls Tryz.prog 57 #[.bool false, .int .u16 n] w fun e w' => e = .panicked [pan n false] ∧ w = w' := (need_not n w).mono fun _ _ h => ⟨h.1, h.2.symm⟩
theorem post_err {l : List Int} {w w' : World} {n : Int} (h : parseO l = .err n) (hb : Below w.heap.size w w') : ParsePost l w (.panicked [pan n false]) w' := by
 unfold ParsePost
 rw [h]
 exact ⟨hb, rfl⟩
theorem cells0_6 (k : Int) : (cells0 k)[6]? = some (.int .u8 k) := by simp [cells0, zeroH]
theorem cells0_8 (k : Int) : (cells0 k)[8]? = some (.int .i64 0) := by simp [cells0, zeroH]
theorem po_known {l : List Int} (h1 : l.length = 512) (h2 : rightF l = true) (h3 : knownB (kindF l) = false) : parseO l = .err 31 := by
 unfold parseO
 rw [if_neg (by omega), if_neg (by rw [h2]; simp), if_pos h3]
theorem po_way {l : List Int} (h1 : l.length = 512) (h2 : rightF l = true) (h3 : knownB (kindF l) = true) (h4 : (wayF l).2 = false) : parseO l = .err 32 := by
 unfold parseO
 rw [if_neg (by omega), if_neg (by rw [h2]; simp), if_neg (by rw [h3]; simp), if_pos h4]
theorem po_nums {l : List Int} {wy : Int} (h1 : l.length = 512) (h2 : rightF l = true) (h3 : knownB (kindF l) = true) (h4 : wayF l = (wy, true)) (h5 : numsGo l (numbersL wy (kindF l)) ((cells0 (kindF l)).setIfInBounds 8 (.int .i64 wy)) = none) : parseO l = .err 32 := by
 unfold parseO
 rw [if_neg (by omega), if_neg (by rw [h2]; simp), if_neg (by rw [h3]; simp), if_neg (by rw [h4]; simp), h4]
 simp only []
 rw [h5]
theorem set_same (cs : Array Value) (i : Nat) (v : Value) (h : cs[i]? = some v) : cs.setIfInBounds i v = cs := by
 apply Array.ext_getElem?
 intro j
 by_cases hj : i = j
 ·subst hj
  have hlt : i < cs.size := by
   rcases Nat.lt_or_ge i cs.size with h' | h'
   ·exact h'
   ·rw [Array.getElem?_eq_none h'] at h; cases h
  rw [Array.getElem?_setIfInBounds_self_of_lt hlt, h]
 ·rw [Array.getElem?_setIfInBounds_ne hj]
theorem po_plain {l : List Int} {wy : Int} {cs : Array Value} (h1 : l.length = 512) (h2 : rightF l = true) (h3 : knownB (kindF l) = true) (h4 : wayF l = (wy, true)) (h5 : numsGo l (numbersL wy (kindF l)) ((cells0 (kindF l)).setIfInBounds 8 (.int .i64 wy)) = some cs) (h6 : ¬ kindF l = 83) : parseO l = .ok (textsGo l (textsL wy) cs) [] := by
 unfold parseO
 rw [if_neg (by omega), if_neg (by rw [h2]; simp), if_neg (by rw [h3]; simp), if_neg (by rw [h4]; simp), h4]
 simp only []
 rw [h5]
 simp only [if_neg h6]
theorem one_set {cs : Array Value} (h : cs.all (·.oneCell') = true) (i : Nat) (v : Value) (hv : v.oneCell' = true) : (cs.setIfInBounds i v).all (·.oneCell') = true := by
 rw [Array.all_eq_true] at h ⊢
 intro j hj
 have hj2 : j < cs.size := by simpa using hj
 rw [Array.getElem_setIfInBounds hj2]
 split
 ·exact hv
 ·exact h j hj2
theorem one_texts (l : List Int) : ∀ (ts : List (Nat × Nat × Nat)) (cs : Array Value), cs.all (·.oneCell') = true → (textsGo l ts cs).all (·.oneCell') = true
 | [], cs, h => h
 | t :: ts, cs, h => one_texts l ts _ (one_set h _ _ rfl)
theorem one_nums (l : List Int) : ∀ (ts : List (Nat × Nat × Nat × Int × Int)) (cs cs' : Array Value), numsGo l ts cs = some cs' → cs.all (·.oneCell') = true → cs'.all (·.oneCell') = true
 | [], cs, cs', e, h => by
  obtain rfl := Option.some.inj e
  exact h
 | t :: ts, cs, cs', e, h => by
  unfold numsGo at e
  split at e
  ·exact one_nums l ts cs cs' e h
  ·split at e
   ·exact one_nums l ts _ cs' e (one_set h _ _ rfl)
   ·cases e
theorem one_cells0 (k wy : Int) : ((cells0 k).setIfInBounds 8 (.int .i64 wy)).all (·.oneCell') = true := one_set (one_set (show zeroH.all (·.oneCell') = true by first | (simp [zeroH, Value.oneCell']; done) | kernel_rfl) _ _ rfl) _ _ rfl
theorem po_gnu {l : List Int} {wy : Int} {cs : Array Value} (h1 : l.length = 512) (h2 : rightF l = true) (h3 : knownB (kindF l) = true) (h4 : wayF l = (wy, true)) (h5 : numsGo l (numbersL wy (kindF l)) ((cells0 (kindF l)).setIfInBounds 8 (.int .i64 wy)) = some cs) (h6 : kindF l = 83) (h7 : ¬ wy = 2) : parseO l = .err 31 := by
 unfold parseO
 rw [if_neg (by omega), if_neg (by rw [h2]; simp), if_neg (by rw [h3]; simp), if_neg (by rw [h4]; simp), h4]
 simp only []
 rw [h5]
 simp only [if_pos h6, if_neg h7]
theorem po_sparse {l : List Int} {cs : Array Value} (h1 : l.length = 512) (h2 : rightF l = true) (h3 : knownB (kindF l) = true) (h4 : wayF l = (2, true)) (h5 : numsGo l (numbersL 2 (kindF l)) ((cells0 (kindF l)).setIfInBounds 8 (.int .i64 2)) = some cs) (h6 : kindF l = 83) : parseO l = sparseF l cs := by
 unfold parseO
 rw [if_neg (by omega), if_neg (by rw [h2]; simp), if_neg (by rw [h3]; simp), if_neg (by rw [h4]; simp), h4]
 simp only []
 rw [h5]
 simp only [if_pos h6, if_true]
structure Ahead (l : List Int) (wy : Int) (cs : Array Value) (ps : List S64) : Prop where
 po : parseO l = .ok (textsGo l (textsL wy) cs) ps
 sz : cs.size = 17
 c8 : cs[8]? = some (.int .i64 wy)
 one : cs.all (·.oneCell') = true
set_option maxRecDepth 100000 in
set_option maxHeartbeats 16000000 in
theorem head_parse_calls (A0 : Option Addr) (c0 : Nat) (l0 : List Int) (w : World) (hr0 : Kd.C (Kd.int .u8) w A0 l0.length l0) (hc0 : l0.length ≤ c0) (hb : Bytes l0) (HT_ : Tabs w) :
  Calls Tryz.prog 31 #[.slice A0 l0.length c0] w (ParsePost l0 w) := by
 have HR0 := Aside0.mk hr0
 have HC0 := Aside0.mk hc0
 have HBy := Aside0.mk hb
 have HT := Aside0.mk HT_
 by_cases hn : l0.length = 512
 ·have n0 : ((l0.length : Int) == 512) = true := by rw [hn]; rfl
  obtain ⟨kr, hkr⟩ := Ev.rounds (g := fun k => sum_Right.f k l0) (Right_eq l0 hb (by omega))
  cases hrf : rightF l0 with
  | false =>
   rw [hrf] at hkr
   have HKR := Aside0.mk hkr
   have HP : Aside0 (parseO l0 = .err 30) := ⟨by unfold parseO; rw [if_neg (by omega), if_pos hrf]⟩
   have HB0 := Aside0.mk (below_alloc (Below.refl w.heap.size w) (.cells zeroH 31))
   clear hkr hr0 hc0 hb HT_ hn hrf
   go_enter Tryz.func31, Tryz.ntmps31
   go_wp2_with (first | (go_at_call 57; (with_reducible refine (need_ok2 _ _).mono ?_); rintro e w9 ⟨rfl, rfl⟩) | (go_at_call 57; (with_reducible refine (need_not2 _ _).mono ?_); rintro e w9 ⟨rfl, rfl⟩) | (go_at_call 58; refine (sum_Right.calls kr _ c0 l0 false _ (Kd.C_below HR0.out HB0.out) HC0.out HKR.out).mono ?_; rintro e w1 ⟨rfl, hb1⟩; have HB1 := Aside0.mk (below_step HB0.out hb1); clear hb1))
   exact ⟨rfl, post_err HP.out HB1.out⟩
  | true =>
   rw [hrf] at hkr
   have HKR := Aside0.mk hkr
   have q156 : (156 : Int) < (l0.length : Int) := by omega
   obtain ⟨ad, e, hx⟩ := Kd.at_int hr0 156 (by omega) q156
   subst e
   simp only [show (156 : Int).toNat = 156 from rfl, Nat.reduceEqDiff, Go.Addr.add, ↓reduceIte] at hx
   have HX := Aside0.mk hx
   have q156n : (156 < l0.length) = True := eq_true (by omega)
   have HN := Aside0.mk hn
   have HRF := Aside0.mk hrf
   have HB0 := Aside0.mk (below_alloc (Below.refl w.heap.size w) (.cells zeroH 31))
   clear hkr hx hr0 hc0 hb HT_ hn hrf
   go_enter Tryz.func31, Tryz.ntmps31
   go_upto_if 28 with (first | (go_at_call 57; (with_reducible refine (need_ok2 _ _).mono ?_); rintro e w9 ⟨rfl, rfl⟩) | (go_at_call 58; refine (sum_Right.calls kr _ c0 l0 true _ (Kd.C_below HR0.out HB0.out) HC0.out HKR.out).mono ?_; rintro e w1 ⟨rfl, hb1⟩; have HSZ := Aside0.mk (show w.heap.size + 1 ≤ w1.heap.size by have h_ := hb1.size; simp at h_; omega); have HRS := Aside0.mk (blk_below (row2_alloc w zeroH 31) hb1); have HB1 := Aside0.mk (below_step HB0.out hb1); have hx1 := (HB1.out.cell (World.block_lt_of_cell? w _ HX.out)).trans HX.out; clear hb1))
   have hsz := HSZ.out
   have hbk := row2_alloc w1 #[.string ⟨#[]⟩, .int .i64 0, .int .i64 0, .int .i64 0, .int .i64 0, .int .i64 0, .int .u8 (rd l0 156), .string ⟨#[]⟩, .int .i64 0, .string ⟨#[]⟩, .string ⟨#[]⟩, .int .i64 0, .int .i64 0, .string ⟨#[]⟩, .slice none 0 0, .bool false, .int .i64 0] 31
   have hB2 : Below w.heap.size w (w1.alloc (.cells #[.string ⟨#[]⟩, .int .i64 0, .int .i64 0, .int .i64 0, .int .i64 0, .int .i64 0, .int .u8 (rd l0 156), .string ⟨#[]⟩, .int .i64 0, .string ⟨#[]⟩, .string ⟨#[]⟩, .int .i64 0, .int .i64 0, .string ⟨#[]⟩, .slice none 0 0, .bool false, .int .i64 0] 31)) := below_alloc HB1.out _
   have hrs : (w1.alloc (.cells #[.string ⟨#[]⟩, .int .i64 0, .int .i64 0, .int .i64 0, .int .i64 0, .int .i64 0, .int .u8 (rd l0 156), .string ⟨#[]⟩, .int .i64 0, .string ⟨#[]⟩, .string ⟨#[]⟩, .int .i64 0, .int .i64 0, .string ⟨#[]⟩, .slice none 0 0, .bool false, .int .i64 0] 31)).heap[w.heap.size]? = some (.cells zeroH 31 (0, 0)) := (Below.heap_alloc _ _ _ (by omega)).trans HRS.out
   generalize w1.alloc (.cells #[.string ⟨#[]⟩, .int .i64 0, .int .i64 0, .int .i64 0, .int .i64 0, .int .i64 0, .int .u8 (rd l0 156), .string ⟨#[]⟩, .int .i64 0, .string ⟨#[]⟩, .string ⟨#[]⟩, .int .i64 0, .int .i64 0, .string ⟨#[]⟩, .slice none 0 0, .bool false, .int .i64 0] 31) = w2 at hbk hB2 hrs ⊢
   generalize w1.heap.size = g at hbk hsz ⊢
   have HBK := Aside0.mk hbk
   have HB2 := Aside0.mk hB2
   have HRS2 := Aside0.mk hrs
   have HG := Aside0.mk (show w.heap.size < g by omega)
   clear hbk hB2 hrs hsz HRS HSZ HB1 HB0 HX hx1
   go_cut [29] from 29 to 29 (fun v29 wx => Aside0 (wx.heap[w.heap.size]? = some (.cells zeroH 31 (0, 0))) ∧ Aside0 (wx.heap[g]? = some (.cells (cells0 (kindF l0)) 31 (0, 0))) ∧ Aside0 (Below w.heap.size w wx))
   case first =>
    by_cases hk0 : rd l0 156 = 0
    ·have hkb : (rd l0 156 == 0) = true := beq_iff_eq.2 hk0
     have hc6 := blk_cell HBK.out 6
     have hf6 := blk_frozen HBK.out 6
     simp only [List.getElem?_toArray, List.getElem?_cons_succ, List.getElem?_cons_zero] at hc6
     have HK0 := Aside0.mk hk0
     clear hk0
     go_wp2_with fail
     go_meet
     refine ⟨⟨?_⟩, ⟨?_⟩, ⟨?_⟩⟩
     ·exact blk_far HRS2.out (by have := HG.out; show w.heap.size ≠ g; omega) _
     ·refine blk_put HBK.out 6 _ ?_
      unfold cells0 kindF
      rw [if_pos HK0.out]
      rfl
     ·exact below_set HB2.out (Nat.le_of_lt HG.out)
    ·have hkb : (rd l0 156 == 0) = false := beq_eq_false_iff_ne.2 hk0
     have HK0 := Aside0.mk hk0
     clear hk0
     go_wp2_with fail
     go_meet
     refine ⟨HRS2, ⟨?_⟩, HB2⟩
     rw [HBK.out]
     unfold cells0 kindF
     rw [if_neg HK0.out]
     rfl
   case rest =>
    obtain ⟨HRS, HBK, HB⟩ := hcut
    have hc6 : wc.cell? ⟨g, 6, none⟩ = some (.int .u8 (kindF l0)) := (blk_cell HBK.out 6).trans (cells0_6 _)
    have hc8 : wc.cell? ⟨g, 8, none⟩ = some (.int .i64 0) := (blk_cell HBK.out 8).trans (cells0_8 _)
    have hf8 := blk_frozen HBK.out 8
    have hkc := fun W => head_Known.calls 6 (kindF l0) _ W (Known_eq (kindF l0))
    have HKC := Aside0.mk hkc
    clear hkc
    cases hkn : knownB (kindF l0) with
    | false =>
     rw [hkn] at HKC
     have HP := Aside0.mk (po_known HN.out HRF.out hkn)
     clear hkn
     go_wp2_with (first | (go_at_call 8; refine (HKC.out _).mono ?_; rintro e w1 ⟨rfl, hb1⟩; have HB1 := Aside0.mk (below_step HB.out hb1); clear hb1) | (go_at_call 57; (with_reducible refine (need_not2 _ _).mono ?_); rintro e w9 ⟨rfl, rfl⟩))
     exact ⟨rfl, post_err HP.out HB1.out⟩
    | true =>
     rw [hkn] at HKC
     obtain ⟨⟨wy, ok⟩, hwy⟩ : ∃ p, wayF l0 = p := ⟨_, rfl⟩
     have HWC := Aside0.mk (fun (c : Nat) (W : World) (hr : Kd.C (Kd.int .u8) W (some ad) l0.length l0) (hc : l0.length ≤ c) (ht : Tabs W) => head_Way.calls (some ad) c l0 wy ok W hr hc (by unfold head_Way.f; rw [hwy]) ht)
     cases ok with
     | false =>
      have HP := Aside0.mk (po_way HN.out HRF.out hkn (by rw [hwy]))
      clear hkn hwy
      go_wp2_with (first | (go_at_call 8; refine (HKC.out _).mono ?_; rintro e w1 ⟨rfl, hb1⟩; have HB1 := Aside0.mk (below_step HB.out hb1); clear hb1) | (go_at_call 57; (with_reducible refine (need_ok2 _ _).mono ?_); rintro e w9 ⟨rfl, rfl⟩) | (go_at_call 57; (with_reducible refine (need_not2 _ _).mono ?_); rintro e w9 ⟨rfl, rfl⟩) | (go_at_call 16; refine (HWC.out _ _ (Kd.C_below HR0.out HB1.out) HC0.out (HT.out.below HB1.out)).mono ?_; rintro e w2 ⟨rfl, hb1⟩; have HB2 := Aside0.mk (below_step HB1.out hb1); clear hb1))
      exact ⟨rfl, post_err HP.out HB2.out⟩
     | true =>
      have HKN := Aside0.mk hkn
      have HWY := Aside0.mk hwy
      clear hkn hwy
      go_upto_region 11 with (first | (go_at_call 8; refine (HKC.out _).mono ?_; rintro e w1 ⟨rfl, hb1⟩; have HB1 := Aside0.mk (below_step HB.out hb1); have hc6a := pw_cell_below hb1 hc6; have hc8a := pw_cell_below hb1 hc8; have HBKa := Aside0.mk (blk_below HBK.out hb1); have HRSa := Aside0.mk (blk_below HRS.out hb1); clear hb1) | (go_at_call 57; (with_reducible refine (need_ok2 _ _).mono ?_); rintro e w9 ⟨rfl, rfl⟩) | (go_at_call 16; refine (HWC.out _ _ (Kd.C_below HR0.out HB1.out) HC0.out (HT.out.below HB1.out)).mono ?_; rintro e w2 ⟨rfl, hb1⟩; have HB2 := Aside0.mk (below_step HB1.out hb1); have hc6b := pw_cell_below hb1 hc6a; have hc8b := pw_cell_below hb1 hc8a; have HBKb := Aside0.mk (blk_below HBKa.out hb1); have HRSb := Aside0.mk (blk_below HRSa.out hb1); have hf8b := blk_frozen HBKb.out 8; clear hb1))
      have hbk3 := blk_set HBKb.out 8 (.int .i64 wy)
      have hrs3 := blk_far (p := ⟨g, 8, none⟩) HRSb.out (by have := HG.out; show w.heap.size ≠ g; omega) (.int .i64 wy)
      have hb3 := below_set (j := 8) (v := .int .i64 wy) HB2.out (Nat.le_of_lt HG.out)
      generalize w2.setCell ⟨g, 8, none⟩ (.int .i64 wy) = w3 at hbk3 hrs3 hb3 ⊢
      have HBK3 := Aside0.mk hbk3
      have HRS3 := Aside0.mk hrs3
      have HB3 := Aside0.mk hb3
      clear hbk3 hrs3 hb3 hc6 hc8 hf8 hc6a hc8a hc6b hc8b hf8b HBKa HRSa HBKb HRSb HB1 HB2 HBK HRS HB HKC HWC
      have hnum := numbers_calls g wy (kindF l0) _ w3 HBK3.out (by simp [cells0, zeroH]) (by simp [cells0, zeroH])
      unfold NumbersPost at hnum
      obtain ⟨E, hE⟩ : ∃ E, E = numbersL wy (kindF l0) := ⟨_, rfl⟩
      obtain ⟨n, hnE⟩ : ∃ n, n = E.length := ⟨_, rfl⟩
      have HEN := Aside0.mk hnE
      have HEO := Aside0.mk (show ∀ t ∈ E, EntOk t by rw [hE]; exact numbersL_ok _ _)
      have HEP := Aside0.mk (show 0 < n ∧ n ≤ 100 by rw [hnE, hE]; exact ⟨numbersL_pos _ _, by unfold numbersL; split <;> split <;> simp⟩)
      rw [← hE, ← hnE] at hnum
      have HNUM := Aside0.mk hnum
      have HE := Aside0.mk hE
      obtain ⟨R, hR⟩ : ∃ R, R = numsGo l0 E ((cells0 (kindF l0)).setIfInBounds 8 (.int .i64 wy)) := ⟨_, rfl⟩
      have HR := Aside0.mk hR
      clear hnum hnE hE hR
      go_wp2_with (go_at_call 59; refine HNUM.out.mono ?_; rintro e w4 ⟨v4, rfl, ho, hb4⟩; obtain ⟨rb, rc, cur, rfl, hrb, hrc, hrw, hcu⟩ := own_open ho HEP.out.1; have HRW := Aside0.mk hrw; have HCU := Aside0.mk hcu; have HRB := Aside0.mk hrb; have HBN := Aside0.mk hb4; clear ho hb4 hrw hcu hrb hrc)
      go_loopg [48] n (fun kq v48 wx => ∃ (i : Nat) (cs : Array Value), v48 = .int .i64 (i : Int) ∧ Aside0 (i + kq = n) ∧ Aside0 (numsGo l0 (E.drop i) cs = R) ∧ Aside0 (cs.size = 17 ∧ cs[8]? = some (.int .i64 wy) ∧ cs[14]? = some (.slice none 0 0)) ∧ Aside0 (wx.heap[g]? = some (.cells cs 31 (0, 0))) ∧ Aside0 (wx.heap[rb]? = some (.cells cur 86 (0, 0))) ∧ Aside0 (wx.heap[w.heap.size]? = some (.cells zeroH 31 (0, 0))) ∧ Aside0 (Below w.heap.size w wx))
      case atStart => exact ⟨0, _, rfl, ⟨Nat.zero_add _⟩, ⟨HR.out.symm⟩, ⟨by simp [cells0, zeroH], by simp [cells0, zeroH], by simp [cells0, zeroH]⟩, ⟨blk_below HBK3.out HBN.out⟩, HRW, ⟨blk_below HRS3.out HBN.out⟩, ⟨below_step HB3.out HBN.out⟩⟩
      case round =>
       obtain ⟨i, cs, rfl, HI, HGO, HCS, HGB, HRWx, HRSx, HBx⟩ := hrel
       have HGR := Aside0.mk (show g < w3.heap.size from blk_lt HBK3.out)
       clear HRW HBN HNUM HB3 HBK3 HRS3
       by_cases hlt : i < n
       ·have hltE : i < E.length := by rw [← HEN.out]; exact hlt
        obtain ⟨⟨at_, wd, idx, lo, hi_⟩, ht⟩ : ∃ t, E[i] = t := ⟨_, rfl⟩
        have hok := HEO.out _ (List.getElem_mem hltE)
        rw [ht] at hok
        obtain ⟨ho1, ho2, ho3, ho4, ho5⟩ := hok
        change at_ + wd ≤ 512 at ho1
        change idx < 17 at ho2
        change idx ≠ 8 at ho3
        change idx ≠ 14 at ho5
        have f0 := (blk_cell HRWx.out (i * 5)).trans (HCU.out (i * 5 + 0) (.int .i64 (at_ : Int)) ((flat_get g E i hltE 0 (by omega)).trans (by rw [ht]; rfl)))
        have f1 := (blk_cell HRWx.out (i * 5 + 1)).trans (HCU.out (i * 5 + 1) (.int .i64 (wd : Int)) ((flat_get g E i hltE 1 (by omega)).trans (by rw [ht]; rfl)))
        have f2 := (blk_cell HRWx.out (i * 5 + 2)).trans (HCU.out (i * 5 + 2) (.pointer (some ⟨g, idx, none⟩)) ((flat_get g E i hltE 2 (by omega)).trans (by rw [ht]; rfl)))
        have f3 := (blk_cell HRWx.out (i * 5 + 3)).trans (HCU.out (i * 5 + 3) (.int .i64 lo) ((flat_get g E i hltE 3 (by omega)).trans (by rw [ht]; rfl)))
        have f4 := (blk_cell HRWx.out (i * 5 + 4)).trans (HCU.out (i * 5 + 4) (.int .i64 hi_) ((flat_get g E i hltE 4 (by omega)).trans (by rw [ht]; rfl)))
        have p0 : (0 ≤ (i : Int)) = True := eq_true (by omega)
        have q0 : ((i : Int) < (n : Int)) = True := eq_true (by omega)
        have q1 : (i < n) = True := eq_true hlt
        have q2 : decide ((i : Int) < (n : Int)) = true := decide_eq_true (by omega)
        have q3 : decide (i < n) = true := decide_eq_true hlt
        have hmx : (i : Int) ≤ 100 := by have := HEP.out.2; omega
        have HGO2 : Aside0 (numsGo l0 ((at_, wd, idx, lo, hi_) :: E.drop (i + 1)) cs = R) := ⟨by rw [← HGO.out, List.drop_eq_getElem_cons hltE, ht]⟩
        clear ht
        have HL2 := Aside0.mk hltE
        have HLT := Aside0.mk hlt
        clear hltE hlt HGO
        obtain ⟨j3, hj3, hz3, hs3, _⟩ := info_parts info3
        have hbw := blk_below HGB.out (Below.alloc (Below.refl _ wr) (Nat.le_refl _) (.cells #[.int .i64 (at_ : Int), .int .i64 (wd : Int), .pointer (some ⟨g, idx, none⟩), .int .i64 lo, .int .i64 hi_] 86))
        by_cases h16 : idx = 16
        ·subst h16
         have heq := fun W => run_eql_ptr_same (P := Tryz.prog) W ⟨g, 16, none⟩ Tryz.underlying84 hj3
         have HG2 : Aside0 (numsGo l0 (E.drop (i + 1)) cs = R) := ⟨by rw [← HGO2.out, numsGo, if_pos rfl]⟩
         have HGX := Aside0.mk hbw
         have HXX := Aside0.mk (show Aside0 (Below w.heap.size w (wr.alloc (.cells #[.int .i64 (at_ : Int), .int .i64 (wd : Int), .pointer (some ⟨g, 16, none⟩), .int .i64 lo, .int .i64 hi_] 86))) from ⟨below_alloc HBx.out _⟩)
         clear HGO2 hj3 hz3 hs3 hbw
         go_wp2
         have hi1 := HI.out
         have hlt := HLT.out
         obtain ⟨k1, rfl⟩ : ∃ k1, gk = k1 + 1 := ⟨gk - 1, by omega⟩
         go_roundg k1
         case measure => omega
         case rel => exact ⟨i + 1, cs, by go_num, ⟨by omega⟩, HG2, HCS, HGX, ⟨blk_below HRWx.out (Below.alloc (Below.refl _ wr) (Nat.le_refl _) _)⟩, ⟨blk_below HRSx.out (Below.alloc (Below.refl _ wr) (Nat.le_refl _) _)⟩, HXX.out⟩
        ·have heq := run_eql_ptr_other (P := Tryz.prog) _ Tryz.underlying84 hj3 (by rw [hs3]; decide) (a := ⟨g, idx, none⟩) (b := ⟨g, 16, none⟩) (by intro h_; injection h_ with _ h_ _; exact h16 h_) hbw hbw
         have hi06 := hj3
         clear hj3 hz3 hs3
         have e1 : ((at_ : Int) + (wd : Int)).toNat = at_ + wd := by omega
         have e2 : ((at_ : Nat) : Int).toNat = at_ := Int.toNat_natCast _
         obtain ⟨i5, hi5, _, hsz5, _⟩ := info_parts info5
         have hl512 := HN.out
         obtain ⟨A6, hcut6, hA6, hC6⟩ := print_mid_of (P := Tryz.prog) (Value.int .u8) 0 22 5 .i64 .i64 Tryz.underlying22 hi5 hsz5 (some ad) c0 l0 (at_ : Int) ((at_ : Int) + (wd : Int)) (by omega) (by omega) (by omega) HC0.out
         rw [e1, e2] at hcut6 hA6 hC6
         obtain ⟨fl, hfl⟩ : ∃ fl, fl = (l0.take (at_ + wd)).drop at_ := ⟨_, rfl⟩
         obtain ⟨⟨x, ok⟩, hx⟩ : ∃ p, fieldF l0 at_ wd = p := ⟨_, rfl⟩
         obtain ⟨kp, hkp⟩ := Ev.rounds (g := fun k => num_Parse.f k fl) (Parse_eq fl (by rw [hfl]; exact (HBy.out.take _).drop _) (by rw [hfl, List.length_drop, List.length_take]; omega))
         have hpx : parseF fl = (x, ok) := by rw [← hx, hfl]; rfl
         rw [hpx] at hkp
         rw [← hfl] at hcut6 hA6 hC6
         have HPAR := Aside0.mk (fun (W : World) (hbw_ : Below w.heap.size w W) => num_Parse.calls kp A6 (c0 - at_) fl x ok W (Kd.C_below (Kd.C_of_reads (h1 := fun _ => rfl) (hA6 _ (Kd.reads_of_C HR0.out))) hbw_) hC6 hkp)
         have hws : wrap64 ((at_ : Int) + (wd : Int)) = (at_ : Int) + (wd : Int) := wrap64_id _ (by omega) (by omega)
         have HXB : Aside0 (Below w.heap.size w (wr.alloc (.cells #[.int .i64 (at_ : Int), .int .i64 (wd : Int), .pointer (some ⟨g, idx, none⟩), .int .i64 lo, .int .i64 hi_] 86))) := ⟨below_alloc HBx.out _⟩
         have HGX := Aside0.mk hbw
         have HBXW := Aside0.mk (row2_alloc wr #[.int .i64 (at_ : Int), .int .i64 (wd : Int), .pointer (some ⟨g, idx, none⟩), .int .i64 lo, .int .i64 hi_] 86)
         have HX := Aside0.mk hx
         have HO1 := Aside0.mk ho1
         have HO2 := Aside0.mk ho2
         have H16 := Aside0.mk h16
         have HO3 := Aside0.mk ho3
         have HO5 := Aside0.mk ho5
         clear hbw hx hkp hpx hfl hA6 hC6 hi5 hsz5 hi06 hl512 ho1 ho2 ho3 ho4 ho5 h16 e1 e2
         by_cases hgood : ok = true ∧ lo ≤ x ∧ x ≤ hi_
         ·obtain ⟨rfl, hlo, hhi⟩ := hgood
          have d1 : decide (lo ≤ x) = true := decide_eq_true hlo
          have d2 : decide (x ≤ hi_) = true := decide_eq_true hhi
          have HG2 : Aside0 (numsGo l0 (E.drop (i + 1)) (cs.setIfInBounds idx (.int .i64 x)) = R) := ⟨by rw [← HGO2.out, numsGo, if_neg H16.out, if_pos (by show (fieldF l0 at_ wd).2 = true ∧ lo ≤ (fieldF l0 at_ wd).1 ∧ (fieldF l0 at_ wd).1 ≤ hi_; rw [HX.out]; exact ⟨rfl, hlo, hhi⟩)]; show _ = numsGo l0 _ (cs.setIfInBounds idx (.int .i64 (fieldF l0 at_ wd).1)); rw [HX.out]⟩
          clear HGO2 hlo hhi
          go_wp2_with (first | (go_at_call 60; refine (HPAR.out _ HXB.out).mono ?_; rintro e w7 ⟨rfl, hb7⟩; have hbx := blk_below HBXW.out hb7; have g2 := (blk_cell hbx 2).trans rfl; have g3 := (blk_cell hbx 3).trans rfl; have g4 := (blk_cell hbx 4).trans rfl; have hg7 := blk_below HGX.out hb7; obtain ⟨old, hold⟩ : ∃ old, w7.cell? ⟨g, idx, none⟩ = some old := ⟨_, (blk_cell hg7 idx).trans (Array.getElem?_eq_getElem (by rw [HCS.out.1]; exact HO2.out))⟩; have hfro := blk_frozen hg7 idx; have HG7 := Aside0.mk hg7; have HB7 := Aside0.mk hb7; clear hbx hg7 hb7) | (go_at_call 57; (with_reducible refine (need_ok2 _ _).mono ?_); rintro e w9 ⟨rfl, rfl⟩))
          have hi1 := HI.out
          have hlt := HLT.out
          have hneR := blk_ne HRWx.out HGB.out (by decide)
          have hgw := HG.out
          obtain ⟨k1, rfl⟩ : ∃ k1, gk = k1 + 1 := ⟨gk - 1, by omega⟩
          go_roundg k1
          case measure => omega
          case rel => exact ⟨i + 1, cs.setIfInBounds idx (.int .i64 x), by go_num, ⟨by omega⟩, HG2, ⟨by rw [Array.size_setIfInBounds]; exact HCS.out.1, by rw [Array.getElem?_setIfInBounds_ne HO3.out]; exact HCS.out.2.1, by rw [Array.getElem?_setIfInBounds_ne HO5.out]; exact HCS.out.2.2⟩, ⟨blk_set HG7.out idx _⟩, ⟨blk_far (p := ⟨g, idx, none⟩) (blk_below (blk_below HRWx.out (Below.alloc (Below.refl _ wr) (Nat.le_refl _) _)) HB7.out) hneR _⟩, ⟨blk_far (p := ⟨g, idx, none⟩) (blk_below (blk_below HRSx.out (Below.alloc (Below.refl _ wr) (Nat.le_refl _) _)) HB7.out) (Nat.ne_of_lt hgw) _⟩, ⟨below_set (below_step HXB.out HB7.out) (Nat.le_of_lt hgw)⟩⟩
         ·have hRn : R = none := by
           rw [← HGO2.out, numsGo, if_neg H16.out, if_neg]
           show ¬ ((fieldF l0 at_ wd).2 = true ∧ lo ≤ (fieldF l0 at_ wd).1 ∧ (fieldF l0 at_ wd).1 ≤ hi_)
           rw [HX.out]
           exact hgood
          have HPE := Aside0.mk (po_nums HN.out HRF.out HKN.out HWY.out (by rw [← HE.out, ← HR.out]; exact hRn))
          clear hRn HGO2
          cases ok with
          | false =>
           clear hgood
           go_wp2_with (first | (go_at_call 60; refine (HPAR.out _ HXB.out).mono ?_; rintro e w7 ⟨rfl, hb7⟩; have hbx := blk_below HBXW.out hb7; have g2 := (blk_cell hbx 2).trans rfl; have g3 := (blk_cell hbx 3).trans rfl; have g4 := (blk_cell hbx 4).trans rfl; have HB7 := Aside0.mk hb7; clear hbx hb7) | (go_at_call 57; (with_reducible refine (need_not2 _ _).mono ?_); rintro e w9 ⟨rfl, rfl⟩))
           exact ⟨rfl, post_err HPE.out (below_step HXB.out HB7.out)⟩
          | true =>
           by_cases hlo : lo ≤ x
           ·have hhi : ¬ x ≤ hi_ := fun h_ => hgood ⟨rfl, hlo, h_⟩
            have d1 : decide (lo ≤ x) = true := decide_eq_true hlo
            have d2 : decide (x ≤ hi_) = false := decide_eq_false hhi
            clear hgood hlo hhi
            go_wp2_with (first | (go_at_call 60; refine (HPAR.out _ HXB.out).mono ?_; rintro e w7 ⟨rfl, hb7⟩; have hbx := blk_below HBXW.out hb7; have g2 := (blk_cell hbx 2).trans rfl; have g3 := (blk_cell hbx 3).trans rfl; have g4 := (blk_cell hbx 4).trans rfl; have HB7 := Aside0.mk hb7; clear hbx hb7) | (go_at_call 57; (with_reducible refine (need_not2 _ _).mono ?_); rintro e w9 ⟨rfl, rfl⟩))
            exact ⟨rfl, post_err HPE.out (below_step HXB.out HB7.out)⟩
           ·have d1 : decide (lo ≤ x) = false := decide_eq_false hlo
            clear hgood hlo
            go_wp2_with (first | (go_at_call 60; refine (HPAR.out _ HXB.out).mono ?_; rintro e w7 ⟨rfl, hb7⟩; have hbx := blk_below HBXW.out hb7; have g2 := (blk_cell hbx 2).trans rfl; have g3 := (blk_cell hbx 3).trans rfl; have g4 := (blk_cell hbx 4).trans rfl; have HB7 := Aside0.mk hb7; clear hbx hb7) | (go_at_call 57; (with_reducible refine (need_not2 _ _).mono ?_); rintro e w9 ⟨rfl, rfl⟩))
            exact ⟨rfl, post_err HPE.out (below_step HXB.out HB7.out)⟩
       ·obtain rfl : i = n := by have := HI.out; omega
        have HRS' : Aside0 (R = some cs) := ⟨by rw [← HGO.out, HEN.out, List.drop_length]; rfl⟩
        have q2 : decide ((i : Int) < (i : Int)) = false := decide_eq_false (by omega)
        clear HGO HEP HEO HCU HEN HRWx hlt HI
        go_upto_region 19 with (fail)
        go_cut [6, 45] from 1 to 0 (fun v6 _v45 wx => v6 = .bool (kindF l0 == 83) ∧ wx = wr ∧ Aside0 (kindF l0 = 83 → wy = 2))
        case first =>
         by_cases hk83 : kindF l0 = 83
         ·have k83 : (kindF l0 == 83) = true := beq_iff_eq.2 hk83
          by_cases hw2 : wy = 2
          ·have k2 : (wy == 2) = true := beq_iff_eq.2 hw2
           have HW2 := Aside0.mk hw2
           clear hk83 hw2
           go_wp2_with (go_at_call 57; (with_reducible refine (need_ok2 _ _).mono ?_); rintro e w9 ⟨rfl, rfl⟩)
           go_meet
           exact ⟨by rw [k83], rfl, ⟨fun _ => HW2.out⟩⟩
          ·have k2 : (wy == 2) = false := beq_eq_false_iff_ne.2 hw2
           have HPE : Aside0 (parseO l0 = .err 31) := ⟨po_gnu HN.out HRF.out HKN.out HWY.out (by rw [← HE.out, ← HR.out]; exact HRS'.out) hk83 hw2⟩
           clear hk83 hw2 HRS' HE HR
           go_wp2_with (go_at_call 57; (with_reducible refine (need_not2 _ _).mono ?_); rintro e w9 ⟨rfl, rfl⟩)
           exact ⟨rfl, post_err HPE.out HBx.out⟩
         ·have k83 : (kindF l0 == 83) = false := beq_eq_false_iff_ne.2 hk83
          have HK83 := Aside0.mk hk83
          clear hk83
          go_wp2_with (go_at_call 57; (with_reducible refine (need_ok2 _ _).mono ?_); rintro e w9 ⟨rfl, rfl⟩)
          go_meet
          exact ⟨by rw [k83], rfl, ⟨fun h_ => absurd h_ HK83.out⟩⟩
        case rest =>
         obtain ⟨rfl, rfl, HSP⟩ := hcut
         go_upto_if 95 with (fail)
         go_cut [6, 95] from 1 to 0 (fun _v6 _v95 wx => ∃ (v14 : Value) (ps : List S64) (ct : Array Value), Aside0 (Ahead l0 wy ct ps) ∧ Aside0 (wx.heap[g]? = some (.cells (ct.setIfInBounds 14 v14) 31 (0, 0))) ∧ Aside0 (Kd.R k64 64 wx w.heap.size (fun k => g < k) v14 ps) ∧ Aside0 (wx.heap[w.heap.size]? = some (.cells zeroH 31 (0, 0))) ∧ Aside0 (Below w.heap.size w wx))
         case first =>
          by_cases hk83 : kindF l0 = 83
          ·have k83 : (kindF l0 == 83) = true := beq_iff_eq.2 hk83
           have hw2 := HSP.out hk83
           subst hw2
           obtain ⟨⟨pl, pok⟩, hpr⟩ : ∃ p, partsR l0 386 4 = p := ⟨_, rfl⟩
           obtain ⟨kq, hkq⟩ := Ev.rounds (g := fun k => head_Parts.f k l0 386 4) (HeadParts_ev l0 HBy.out (by have := HN.out; omega) 386 4)
           rw [hpr] at hkq
           have HKQ := Aside0.mk hkq
           obtain ⟨⟨x, ok⟩, hx⟩ : ∃ p, fieldF l0 483 12 = p := ⟨_, rfl⟩
           obtain ⟨i5, hi5, _, hsz5, _⟩ := info_parts info5
           have hl512 := HN.out
           obtain ⟨A6, hcut6, hA6, hC6⟩ := print_mid_of (P := Tryz.prog) (Value.int .u8) 0 22 5 .i64 .i64 Tryz.underlying22 hi5 hsz5 (some ad) c0 l0 483 495 (by omega) (by omega) (by omega) HC0.out
           obtain ⟨fl, hfl⟩ : ∃ fl, fl = (l0.take (495 : Int).toNat).drop (483 : Int).toNat := ⟨_, rfl⟩
           obtain ⟨kp, hkp⟩ := Ev.rounds (g := fun k => num_Parse.f k fl) (Parse_eq fl (by rw [hfl]; exact (HBy.out.take _).drop _) (by rw [hfl, List.length_drop, List.length_take]; omega))
           have hpx : parseF fl = (x, ok) := by rw [← hx, hfl]; rfl
           rw [hpx] at hkp
           rw [← hfl] at hcut6 hA6 hC6
           have HPAR := Aside0.mk (fun (W : World) (hbw_ : Below w.heap.size w W) => num_Parse.calls kp A6 (c0 - (483 : Int).toNat) fl x ok W (Kd.C_below (Kd.C_of_reads (h1 := fun _ => rfl) (hA6 _ (Kd.reads_of_C HR0.out))) hbw_) hC6 hkp)
           have HX := Aside0.mk hx
           have HPR := Aside0.mk hpr
           have HK83 := Aside0.mk hk83
           clear hk83 hpr hkq hx hi5 hsz5 hl512 hA6 hkp hpx hfl hC6
           have HPT := Aside0.mk (head_Parts.calls kq (fun k_ => k_ < w.heap.size) (some ad) c0 l0 386 4 pl pok wc (Kd.V_mk HC0.out (Kd.F_below (Kd.C_F (Kd.heap_int .u8) HR0.out) HBx.out)) HKQ.out)
           go_upto_region 23 with (go_at_call 61; refine HPT.out.mono ?_; rintro e w7 ⟨v14, rfl, hR7, hb7⟩; obtain ⟨A14, c14, rfl⟩ := Kd.R_slice hR7; have hg7 := blk_below HGB.out hb7; have hold := (blk_cell hg7 14).trans HCS.out.2.2; have hfro := blk_frozen hg7 14; have HG7 := Aside0.mk hg7; have HB7 := Aside0.mk hb7; have HR7 := Aside0.mk hR7; clear hg7 hb7 hR7)
           obtain ⟨v14, hv14⟩ : ∃ v, v = (.slice A14 pl.length c14 : Value) := ⟨_, rfl⟩
           rw [← hv14] at HR7 ⊢
           clear hv14
           have hg8 := blk_set HG7.out 14 v14
           have hrs8 := blk_far (p := ⟨g, 14, none⟩) (blk_below HRSx.out HB7.out) (Nat.ne_of_lt HG.out) v14
           have hb8 := below_set (j := 14) (v := v14) (below_step HBx.out HB7.out) (Nat.le_of_lt HG.out)
           have hgl := blk_lt HGB.out
           have hR8 : Kd.R k64 64 (w7.setCell ⟨g, 14, none⟩ v14) w.heap.size (fun k => g < k) v14 pl := Kd.R_far (p := ⟨g, 14, none⟩) (Kd.R_lower (Kd.R_mono HR7.out (fun k hk => Nat.lt_of_lt_of_le hgl hk)) HBx.out.size) (fun k hk => Nat.ne_of_gt hk) v14
           generalize w7.setCell ⟨g, 14, none⟩ v14 = w8 at hg8 hrs8 hb8 hR8 ⊢
           have HG8 := Aside0.mk hg8
           have HRS8 := Aside0.mk hrs8
           have HB8 := Aside0.mk hb8
           have HR8 := Aside0.mk hR8
           have HOLD16 : Aside0 ((cs.setIfInBounds 14 v14)[16]? = some ((cs.setIfInBounds 14 v14)[16]'(by rw [Array.size_setIfInBounds, HCS.out.1]; decide))) := ⟨Array.getElem?_eq_getElem _⟩
           have HSET : Aside0 (∀ u : Value, ((cs.setIfInBounds 14 v14).setIfInBounds 16 u)[16]? = some u) := ⟨fun u => Array.getElem?_setIfInBounds_self_of_lt (by rw [Array.size_setIfInBounds, HCS.out.1]; decide)⟩
           have HPS := Aside0.mk (po_sparse HN.out HRF.out HKN.out HWY.out (by rw [← HE.out, ← HR.out]; exact HRS'.out) HK83.out)
           have HONE := Aside0.mk (one_nums l0 E _ cs (by rw [← HR.out]; exact HRS'.out) (one_cells0 _ _))
           clear hg8 hrs8 hb8 hR8 hgl hold hfro HGB HRSx HBx HRS' HE HR
           by_cases hgood : pok = true ∧ ok = true ∧ 0 ≤ x ∧ x ≤ 1099511627776
           ·obtain ⟨rfl, rfl, hlo, hhi⟩ := hgood
            have d1 : decide (0 ≤ x) = true := decide_eq_true hlo
            have d2 : decide (x ≤ 1099511627776) = true := decide_eq_true hhi
            have HPO : Aside0 (parseO l0 = .ok (textsGo l0 (textsL 2) ((cs.setIfInBounds 16 (.int .i64 x)).setIfInBounds 15 (.bool (rd l0 482 != 0)))) pl) := ⟨by
             rw [HPS.out]
             unfold sparseF
             rw [HX.out, HPR.out]
             exact if_pos ⟨rfl, rfl, hlo, hhi⟩⟩
            clear hlo hhi HPS
            go_upto_region 24 with ((go_at_call 60; refine (HPAR.out _ HB8.out).mono ?_; rintro e w9 ⟨rfl, hb9⟩; have hg9 := blk_below HG8.out hb9; have hold9 := (blk_cell hg9 16).trans HOLD16.out; have hfro9 := blk_frozen hg9 16; have HG9 := Aside0.mk hg9; have HB9 := Aside0.mk hb9; clear hg9 hb9))
            have hg10 := blk_set HG9.out 16 (.int .i64 x)
            have hrs10 := blk_far (p := ⟨g, 16, none⟩) (blk_below HRS8.out HB9.out) (Nat.ne_of_lt HG.out) (.int .i64 x)
            have hb10 := below_set (j := 16) (v := .int .i64 x) (below_step HB8.out HB9.out) (Nat.le_of_lt HG.out)
            have hR10 := Kd.R_far (p := ⟨g, 16, none⟩) (Kd.R_below HR8.out HB9.out) (fun k hk => Nat.ne_of_gt hk) (.int .i64 x)
            have hc16 : (w9.setCell ⟨g, 16, none⟩ (.int .i64 x)).cell? ⟨g, 16, none⟩ = some (.int .i64 x) := (blk_cell hg10 16).trans (HSET.out (.int .i64 x))
            generalize w9.setCell ⟨g, 16, none⟩ (.int .i64 x) = w10 at hg10 hrs10 hb10 hR10 hc16 ⊢
            have HG10 := Aside0.mk hg10
            have HRS10 := Aside0.mk hrs10
            have HB10 := Aside0.mk hb10
            have HR10 := Aside0.mk hR10
            clear hg10 hrs10 hb10 hR10
            go_upto_region 25 with (go_at_call 57; (with_reducible refine (need_ok2 _ _).mono ?_); rintro e w11 ⟨rfl, rfl⟩)
            have q482 : (482 : Int) < (l0.length : Int) := by have := HN.out; omega
            have q482n : (482 < l0.length) = True := eq_true (by have := HN.out; omega)
            obtain ⟨ad2, e2, hx2⟩ := Kd.at_int (Kd.C_below HR0.out HB10.out) 482 (by omega) q482
            obtain rfl := Option.some.inj e2
            simp only [show (482 : Int).toNat = 482 from rfl, Nat.reduceEqDiff, Go.Addr.add, ↓reduceIte] at hx2
            have hold15 : w10.cell? ⟨g, 15, none⟩ = some ((((cs.setIfInBounds 14 v14).setIfInBounds 16 (.int .i64 x))[15]'(by rw [Array.size_setIfInBounds, Array.size_setIfInBounds, HCS.out.1]; decide))) := (blk_cell HG10.out 15).trans (Array.getElem?_eq_getElem _)
            have hfro15 := blk_frozen HG10.out 15
            clear e2
            go_wp2_with fail
            go_meet
            refine ⟨v14, pl, (cs.setIfInBounds 16 (.int .i64 x)).setIfInBounds 15 (.bool (rd l0 482 != 0)), ⟨⟨HPO.out, by rw [Array.size_setIfInBounds, Array.size_setIfInBounds]; exact HCS.out.1, by rw [Array.getElem?_setIfInBounds_ne (by decide), Array.getElem?_setIfInBounds_ne (by decide)]; exact HCS.out.2.1, one_set (one_set HONE.out _ _ rfl) _ _ rfl⟩⟩, ⟨?_⟩, ⟨Kd.R_far (p := ⟨g, 15, none⟩) HR10.out (fun k hk => Nat.ne_of_gt hk) _⟩, ⟨blk_far (p := ⟨g, 15, none⟩) HRS10.out (Nat.ne_of_lt HG.out) _⟩, ⟨below_set HB10.out (Nat.le_of_lt HG.out)⟩⟩
            rw [Array.setIfInBounds_comm _ _ (show 15 ≠ 14 by decide), Array.setIfInBounds_comm _ _ (show 16 ≠ 14 by decide)]
            exact blk_set HG10.out 15 _
           ·have HPE : Aside0 (parseO l0 = .err 32) := ⟨by
             rw [HPS.out]
             unfold sparseF
             rw [HX.out, HPR.out]
             exact if_neg hgood⟩
            clear HPS
            cases pok with
            | false =>
             clear hgood
             go_upto_region 24 with ((go_at_call 60; refine (HPAR.out _ HB8.out).mono ?_; rintro e w9 ⟨rfl, hb9⟩; have hg9 := blk_below HG8.out hb9; have hold9 := (blk_cell hg9 16).trans HOLD16.out; have hfro9 := blk_frozen hg9 16; have HG9 := Aside0.mk hg9; have HB9 := Aside0.mk hb9; clear hg9 hb9))
             have HB10 := Aside0.mk (below_set (j := 16) (v := .int .i64 x) (below_step HB8.out HB9.out) (Nat.le_of_lt HG.out))
             have hc16 : (w9.setCell ⟨g, 16, none⟩ (.int .i64 x)).cell? ⟨g, 16, none⟩ = some (.int .i64 x) := (blk_cell (blk_set HG9.out 16 (.int .i64 x)) 16).trans (HSET.out (.int .i64 x))
             generalize w9.setCell ⟨g, 16, none⟩ (.int .i64 x) = w10 at hc16 HB10 ⊢
             go_wp2_with (go_at_call 57; (with_reducible refine (need_not2 _ _).mono ?_); rintro e w11 ⟨rfl, rfl⟩)
             exact ⟨rfl, post_err HPE.out HB10.out⟩
            | true =>
             cases ok with
             | false =>
              clear hgood
              go_upto_region 24 with ((go_at_call 60; refine (HPAR.out _ HB8.out).mono ?_; rintro e w9 ⟨rfl, hb9⟩; have hg9 := blk_below HG8.out hb9; have hold9 := (blk_cell hg9 16).trans HOLD16.out; have hfro9 := blk_frozen hg9 16; have HG9 := Aside0.mk hg9; have HB9 := Aside0.mk hb9; clear hg9 hb9))
              have HB10 := Aside0.mk (below_set (j := 16) (v := .int .i64 x) (below_step HB8.out HB9.out) (Nat.le_of_lt HG.out))
              have hc16 : (w9.setCell ⟨g, 16, none⟩ (.int .i64 x)).cell? ⟨g, 16, none⟩ = some (.int .i64 x) := (blk_cell (blk_set HG9.out 16 (.int .i64 x)) 16).trans (HSET.out (.int .i64 x))
              generalize w9.setCell ⟨g, 16, none⟩ (.int .i64 x) = w10 at hc16 HB10 ⊢
              go_wp2_with (go_at_call 57; (with_reducible refine (need_not2 _ _).mono ?_); rintro e w11 ⟨rfl, rfl⟩)
              exact ⟨rfl, post_err HPE.out HB10.out⟩
             | true =>
              by_cases hlo : 0 ≤ x
              ·have hhi : ¬ x ≤ 1099511627776 := fun h_ => hgood ⟨rfl, rfl, hlo, h_⟩
               have d1 : decide (0 ≤ x) = true := decide_eq_true hlo
               have d2 : decide (x ≤ 1099511627776) = false := decide_eq_false hhi
               clear hgood hlo hhi
               go_upto_region 24 with ((go_at_call 60; refine (HPAR.out _ HB8.out).mono ?_; rintro e w9 ⟨rfl, hb9⟩; have hg9 := blk_below HG8.out hb9; have hold9 := (blk_cell hg9 16).trans HOLD16.out; have hfro9 := blk_frozen hg9 16; have HG9 := Aside0.mk hg9; have HB9 := Aside0.mk hb9; clear hg9 hb9))
               have HB10 := Aside0.mk (below_set (j := 16) (v := .int .i64 x) (below_step HB8.out HB9.out) (Nat.le_of_lt HG.out))
               have hc16 : (w9.setCell ⟨g, 16, none⟩ (.int .i64 x)).cell? ⟨g, 16, none⟩ = some (.int .i64 x) := (blk_cell (blk_set HG9.out 16 (.int .i64 x)) 16).trans (HSET.out (.int .i64 x))
               generalize w9.setCell ⟨g, 16, none⟩ (.int .i64 x) = w10 at hc16 HB10 ⊢
               go_wp2_with (go_at_call 57; (with_reducible refine (need_not2 _ _).mono ?_); rintro e w11 ⟨rfl, rfl⟩)
               exact ⟨rfl, post_err HPE.out HB10.out⟩
              ·have d1 : decide (0 ≤ x) = false := decide_eq_false hlo
               clear hgood hlo
               go_upto_region 24 with ((go_at_call 60; refine (HPAR.out _ HB8.out).mono ?_; rintro e w9 ⟨rfl, hb9⟩; have hg9 := blk_below HG8.out hb9; have hold9 := (blk_cell hg9 16).trans HOLD16.out; have hfro9 := blk_frozen hg9 16; have HG9 := Aside0.mk hg9; have HB9 := Aside0.mk hb9; clear hg9 hb9))
               have HB10 := Aside0.mk (below_set (j := 16) (v := .int .i64 x) (below_step HB8.out HB9.out) (Nat.le_of_lt HG.out))
               have hc16 : (w9.setCell ⟨g, 16, none⟩ (.int .i64 x)).cell? ⟨g, 16, none⟩ = some (.int .i64 x) := (blk_cell (blk_set HG9.out 16 (.int .i64 x)) 16).trans (HSET.out (.int .i64 x))
               generalize w9.setCell ⟨g, 16, none⟩ (.int .i64 x) = w10 at hc16 HB10 ⊢
               go_wp2_with (go_at_call 57; (with_reducible refine (need_not2 _ _).mono ?_); rintro e w11 ⟨rfl, rfl⟩)
               exact ⟨rfl, post_err HPE.out HB10.out⟩
          ·have k83 : (kindF l0 == 83) = false := beq_eq_false_iff_ne.2 hk83
           have HAH : Aside0 (Ahead l0 wy cs []) := ⟨⟨po_plain HN.out HRF.out HKN.out HWY.out (by rw [← HE.out, ← HR.out]; exact HRS'.out) hk83, HCS.out.1, HCS.out.2.1, one_nums l0 E _ cs (by rw [← HR.out]; exact HRS'.out) (one_cells0 _ _)⟩⟩
           clear hk83
           go_wp2_with fail
           go_meet
           exact ⟨.slice none 0 0, [], cs, HAH, ⟨by rw [set_same cs 14 _ HCS.out.2.2]; exact HGB.out⟩, ⟨Kd.R_nil _ _ _ _ _⟩, HRSx, HBx⟩
         case rest =>
         clear HRS' HE HR HGB HCS HRSx HBx HSP
         obtain ⟨v14, ps, ct, HAH, HG5, HR5, HRS5, HB5⟩ := hcut
         go_upto_region 26 with (fail)
         have htx := texts_calls g wy _ wc HG5.out (by rw [Array.getElem?_setIfInBounds_ne (by decide)]; exact HAH.out.c8)
         unfold TextsPost at htx
         obtain ⟨T, hT⟩ : ∃ T, T = textsL wy := ⟨_, rfl⟩
         obtain ⟨m, hm⟩ : ∃ m, m = T.length := ⟨_, rfl⟩
         rw [← hT, ← hm] at htx
         have HTX := Aside0.mk htx
         have HMT := Aside0.mk hm
         have HMP := Aside0.mk (show 0 < m ∧ m ≤ 100 by rw [hm, hT]; unfold textsL; exact ⟨by simp, by split <;> split <;> simp⟩)
         have HTO := Aside0.mk (show ∀ t ∈ T, TextOk t by rw [hT]; exact textsL_ok _)
         obtain ⟨FIN, hFIN⟩ : ∃ F, F = textsGo l0 T ct := ⟨_, rfl⟩
         have HPO : Aside0 (parseO l0 = .ok FIN ps) := ⟨by rw [hFIN, hT]; exact HAH.out.po⟩
         have HFIN := Aside0.mk hFIN
         have HSZ := Aside0.mk HAH.out.sz
         have HONE : Aside0 (FIN.all (·.oneCell') = true) := ⟨by rw [hFIN]; exact one_texts l0 T ct HAH.out.one⟩
         clear htx hT hm hFIN HAH
         go_wp2_with (go_at_call 62; refine HTX.out.mono ?_; rintro e w4 ⟨v4, rfl, ho, hb4⟩; obtain ⟨tb, tc, cut, rfl, htb, htc, htw, hcu⟩ := own_open ho HMP.out.1; have HTW := Aside0.mk htw; have HCT := Aside0.mk hcu; have HBT := Aside0.mk hb4; clear ho hb4 htw hcu htb htc)
         go_loopg [131] m (fun kq v131 wx => ∃ (j : Nat) (ts : Array Value), v131 = .int .i64 (j : Int) ∧ Aside0 (j + kq = m) ∧ Aside0 (textsGo l0 (T.drop j) ts = FIN) ∧ Aside0 (ts.size = 17) ∧ Aside0 (wx.heap[g]? = some (.cells (ts.setIfInBounds 14 v14) 31 (0, 0))) ∧ Aside0 (wx.heap[tb]? = some (.cells cut 93 (0, 0))) ∧ Aside0 (wx.heap[w.heap.size]? = some (.cells zeroH 31 (0, 0))) ∧ Aside0 (Below w.heap.size w wx) ∧ Aside0 (Kd.R k64 64 wx w.heap.size (fun k => g < k) v14 ps))
         case atStart => exact ⟨0, ct, rfl, ⟨Nat.zero_add _⟩, ⟨HFIN.out.symm⟩, HSZ, ⟨blk_below HG5.out HBT.out⟩, HTW, ⟨blk_below HRS5.out HBT.out⟩, ⟨below_step HB5.out HBT.out⟩, ⟨Kd.R_below HR5.out HBT.out⟩⟩
         case round =>
          obtain ⟨j, ts, rfl, HJ, HGT, HTS, HGB6, HTW6, HRS6, HB6, HR6⟩ := hrel
          clear HTX HG5 HR5 HRS5 HB5 HTW HBT HFIN HSZ
          by_cases hlt : j < m
          ·have hltT : j < T.length := by rw [← HMT.out]; exact hlt
           obtain ⟨⟨at_, wd, idx⟩, ht⟩ : ∃ t, T[j] = t := ⟨_, rfl⟩
           have hok := HTO.out _ (List.getElem_mem hltT)
           rw [ht] at hok
           obtain ⟨ho1, ho2, ho3⟩ := hok
           change at_ + wd ≤ 512 at ho1
           change idx < 17 at ho2
           change idx ≠ 14 at ho3
           have f0 := (blk_cell HTW6.out (j * 3)).trans (HCT.out (j * 3 + 0) (.int .i64 (at_ : Int)) ((flat_get3 g T j hltT 0 (by omega)).trans (by rw [ht]; rfl)))
           have f1 := (blk_cell HTW6.out (j * 3 + 1)).trans (HCT.out (j * 3 + 1) (.int .i64 (wd : Int)) ((flat_get3 g T j hltT 1 (by omega)).trans (by rw [ht]; rfl)))
           have f2 := (blk_cell HTW6.out (j * 3 + 2)).trans (HCT.out (j * 3 + 2) (.pointer (some ⟨g, idx, none⟩)) ((flat_get3 g T j hltT 2 (by omega)).trans (by rw [ht]; rfl)))
           have p0 : (0 ≤ (j : Int)) = True := eq_true (by omega)
           have q0 : ((j : Int) < (m : Int)) = True := eq_true (by omega)
           have q1 : (j < m) = True := eq_true hlt
           have q2' : decide ((j : Int) < (m : Int)) = true := decide_eq_true (by omega)
           have q3 : decide (j < m) = true := decide_eq_true hlt
           have hmx : (j : Int) ≤ 100 := by have := HMP.out.2; omega
           have HGT2 : Aside0 (textsGo l0 ((at_, wd, idx) :: T.drop (j + 1)) ts = FIN) := ⟨by rw [← HGT.out, List.drop_eq_getElem_cons hltT, ht]⟩
           clear ht
           have HLT := Aside0.mk hlt
           clear hltT hlt HGT
           go_upto_region 29 with (fail)
           have e1 : ((at_ : Int) + (wd : Int)).toNat = at_ + wd := by omega
           have e2 : ((at_ : Nat) : Int).toNat = at_ := Int.toNat_natCast _
           obtain ⟨i5, hi5, _, hsz5, _⟩ := info_parts info5
           have hl512 := HN.out
           obtain ⟨A6, hcut6, hA6, hC6⟩ := print_mid_of (P := Tryz.prog) (Value.int .u8) 0 22 5 .i64 .i64 Tryz.underlying22 hi5 hsz5 (some ad) c0 l0 (at_ : Int) ((at_ : Int) + (wd : Int)) (by omega) (by omega) (by omega) HC0.out
           rw [e1, e2] at hcut6 hA6 hC6
           obtain ⟨fl, hfl⟩ : ∃ fl, fl = (l0.take (at_ + wd)).drop at_ := ⟨_, rfl⟩
           have hfb : Bytes fl := by rw [hfl]; exact (HBy.out.take _).drop _
           have hfn : fl.length < 4294967281 := by rw [hfl, List.length_drop, List.length_take]; omega
           rw [← hfl] at hcut6 hA6 hC6
           have HCU2 := Aside0.mk (fun (W : World) (hbw_ : Below w.heap.size w W) => str_Cut.calls A6 (c0 - at_) fl (strOfNums (cutF fl)) W (Kd.C_below (Kd.C_of_reads (h1 := fun _ => rfl) (hA6 _ (Kd.reads_of_C HR0.out))) hbw_) hC6 (by unfold str_Cut.f; rw [if_pos ⟨(bytesB_iff fl).2 hfb, hfn⟩]))
           have hws : wrap64 ((at_ : Int) + (wd : Int)) = (at_ : Int) + (wd : Int) := wrap64_id _ (by omega) (by omega)
           have hws2 : IntKind.i64.wrap ((at_ : Int) + (wd : Int)) = (at_ : Int) + (wd : Int) := by rw [i64_w]; exact hws
           have HG2 : Aside0 (textsGo l0 (T.drop (j + 1)) (ts.setIfInBounds idx (.string (strOfNums (cutF fl)))) = FIN) := ⟨by rw [← HGT2.out, hfl]; rfl⟩
           have hgw := HG.out
           have hbx := row2_alloc wr #[.int .i64 (at_ : Int), .int .i64 (wd : Int), .pointer (some ⟨g, idx, none⟩)] 93
           have hW : Below wr.heap.size wr (wr.alloc (.cells #[.int .i64 (at_ : Int), .int .i64 (wd : Int), .pointer (some ⟨g, idx, none⟩)] 93)) := Below.alloc (Below.refl _ wr) (Nat.le_refl _) _
           have HWB := Aside0.mk (below_alloc HB6.out (.cells #[.int .i64 (at_ : Int), .int .i64 (wd : Int), .pointer (some ⟨g, idx, none⟩)] 93))
           have HGW := Aside0.mk (blk_below HGB6.out hW)
           have HTWW := Aside0.mk (blk_below HTW6.out hW)
           have HRSW := Aside0.mk (blk_below HRS6.out hW)
           have HRW6 := Aside0.mk (Kd.R_below HR6.out hW)
           have hneb : ¬ wr.heap.size = g := by have := blk_lt HGB6.out; omega
           generalize wr.alloc (.cells #[.int .i64 (at_ : Int), .int .i64 (wd : Int), .pointer (some ⟨g, idx, none⟩)] 93) = wb at hbx HWB HGW HTWW HRSW HRW6 ⊢
           generalize wr.heap.size = bx at hbx hneb ⊢
           have b0 : wb.cell? ⟨bx, 0, none⟩ = some (.int .i64 (at_ : Int)) := (blk_cell hbx 0).trans rfl
           have b1 : wb.cell? ⟨bx, 1, none⟩ = some (.int .i64 (wd : Int)) := (blk_cell hbx 1).trans rfl
           have b2 : wb.cell? ⟨bx, 2, none⟩ = some (.pointer (some ⟨g, idx, none⟩)) := (blk_cell hbx 2).trans rfl
           have HO2 := Aside0.mk ho2
           have HO3 := Aside0.mk ho3
           clear hfl hfb hfn hA6 hC6 hi5 hsz5 hl512 ho1 ho2 ho3 e1 e2 HGT2 hbx hW f0 f1 f2
           have HOLD : Aside0 (∀ W : World, W.heap[g]? = some (.cells (ts.setIfInBounds 14 v14) 31 (0, 0)) → ∃ old, W.cell? ⟨g, idx, none⟩ = some old) := ⟨fun W h => ⟨_, (blk_cell h idx).trans (Array.getElem?_eq_getElem (by rw [Array.size_setIfInBounds, HTS.out]; exact HO2.out))⟩⟩
           have HGWd : Aside0 (wb.drew.heap[g]? = some (.cells (ts.setIfInBounds 14 v14) 31 (0, 0))) := ⟨HGW.out⟩
           have HTWd : Aside0 (wb.drew.heap[tb]? = some (.cells cut 93 (0, 0))) := ⟨HTWW.out⟩
           have HRSd : Aside0 (wb.drew.heap[w.heap.size]? = some (.cells zeroH 31 (0, 0))) := ⟨HRSW.out⟩
           have HRd := Aside0.mk (Kd.R_drew HRW6.out)
           have HWd := Aside0.mk (below_drew HWB.out)
           go_region_held3 (fun w' => w'.cell? ⟨bx, 0, none⟩ = some (.int .i64 (at_ : Int)) ∧ w'.cell? ⟨bx, 1, none⟩ = some (.int .i64 (wd : Int)) ∧ w'.cell? ⟨bx, 2, none⟩ = some (.pointer (some ⟨g, idx, none⟩))) (first | go_keep | exact ⟨far_cell k0 hneb, far_cell k1 hneb, far_cell k2 hneb⟩) ((go_at_call 63; refine (HCU2.out _ HWd.out).mono ?_; rintro e w7 ⟨rfl, hb7⟩; have k0 := pw_cell_below hb7 b0; have k1 := pw_cell_below hb7 b1; have k2 := pw_cell_below hb7 b2; have hg7 := blk_below HGWd.out hb7; obtain ⟨old, hold⟩ := HOLD.out _ hg7; have hfro := blk_frozen hg7 idx; have HG7 := Aside0.mk hg7; have HB7 := Aside0.mk hb7; clear hg7 hb7))
           have hj1 := HJ.out
           have hlt := HLT.out
           have hneT := blk_ne HTWW.out HGW.out (by decide)
           have hgw := HG.out
           obtain ⟨k1, rfl⟩ : ∃ k1, gk = k1 + 1 := ⟨gk - 1, by omega⟩
           go_wp2
           go_roundg k1
           case measure => omega
           case rel =>
            refine ⟨j + 1, ts.setIfInBounds idx (.string (strOfNums (cutF fl))), by go_num, ⟨by omega⟩, HG2, ⟨by rw [Array.size_setIfInBounds]; exact HTS.out⟩, ⟨?_⟩, ⟨blk_far (p := ⟨g, idx, none⟩) (blk_below HTWd.out HB7.out) hneT _⟩, ⟨blk_far (p := ⟨g, idx, none⟩) (blk_below HRSd.out HB7.out) (Nat.ne_of_lt hgw) _⟩, ⟨below_set (below_step HWd.out HB7.out) (Nat.le_of_lt hgw)⟩, ⟨Kd.R_far (p := ⟨g, idx, none⟩) (Kd.R_below HRd.out HB7.out) (fun k hk => Nat.ne_of_gt hk) _⟩⟩
            rw [Array.setIfInBounds_comm _ _ HO3.out]
            exact blk_set HG7.out idx _
          ·obtain rfl : j = m := by have := HJ.out; omega
           have hF : FIN = ts := by rw [← HGT.out, HMT.out, List.drop_length]; rfl
           subst hF
           have q2' : decide ((j : Int) < (j : Int)) = false := decide_eq_false (by omega)
           have hone := one_set HONE.out 14 v14 (Kd.R_val HR6.out).2
           have hsz17 : (FIN.setIfInBounds 14 v14).size = 17 := by rw [Array.size_setIfInBounds]; exact HTS.out
           have hgw := HG.out
           generalize hC : FIN.setIfInBounds 14 v14 = C at hone hsz17 HGB6
           have HONC := Aside0.mk hone
           have HSC := Aside0.mk hsz17
           have HCC := Aside0.mk hC
           clear hone hsz17 hC hlt HGT HJ HMT HMP
           go_wp2_with (first | (refine wpList_load_row rfl 31 _ rfl g rfl 31 C (0, 0) _ HGB6.out Tryz.underlying31 rfl (by rw [HSC.out]; kernel_rfl) ?_) | (refine wpList_store_rowTo rfl 31 _ _ rfl rfl w.heap.size C rfl rfl 31 zeroH HRS6.out (by rw [HSC.out]; kernel_rfl) (by rw [HSC.out]; rfl) HONC.out ?_))
           refine bodyPost_ret (results_cell_row rfl _ _ w.heap.size 31 C (0, 0) _ rfl (setRow_same HRS6.out) Tryz.underlying31 rfl (by rw [HSC.out]; kernel_rfl)) rfl ⟨?_, ?_⟩
           ·exact pw_below_grown HB6.out (some w.heap.size) HB6.out.size (grown_setRow _ _ _) (fun k hk => by injection hk with hk; omega)
           ·rw [HPO.out]
            refine ⟨v14, by rw [HCC.out], ?_⟩
            exact Kd.R_mono (Kd.R_grown HR6.out (grown_setRow _ _ _) (fun k hk h_ => by injection h_ with h_; omega)) (fun _ _ => trivial)
 ·have n0 : ((l0.length : Int) == 512) = false := beq_eq_false_iff_ne.2 (by omega)
  have HP : Aside0 (parseO l0 = .err 21) := ⟨by unfold parseO; rw [if_pos hn]⟩
  have HB0 := Aside0.mk (below_alloc (Below.refl w.heap.size w) (.cells zeroH 31))
  clear hr0 hc0 hb HT_ hn
  go_enter Tryz.func31, Tryz.ntmps31
  go_wp2_with (go_at_call 57; (with_reducible refine (need_not2 _ _).mono ?_); rintro e w9 ⟨rfl, rfl⟩)
  exact ⟨rfl, post_err HP.out HB0.out⟩
end Go.Proofs.YtkfcfbggojmfkaaGreatDoor.P
