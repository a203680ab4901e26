/- Sums of blocks: what the printed functions come to. No conditions. head.Parts: what it comes to. No conditions. sum.Seal: what it hands back, for every slice of bytes. No conditions. Sealed blocks: what they tell. No conditions. -/
import Derived.Test.YtkfcfbggojmfkaaGreatDoorHNumParse
import Derived.Test.YtkfcfbggojmfkaaGreatDoorPx2
import Derived.Test.YtkfcfbggojmfkaaGreatDoorHOct
import Derived.Laws.CopyOwn
import Derived.Laws.Cells
import Derived.Deep.MidRow
import Derived.Deep.WholeRow
section
namespace Go.Proofs.YtkfcfbggojmfkaaGreatDoor.P
open Go.RowKit Go.Shelf Go.Lib Go.Proofs.YtkfcfbggojmfkaaGreatDoorW.PrintWords Go.Proofs.YtkfcfbggojmfkaaGreatDoorW.PrintLast Go.Proofs.YtkfcfbggojmfkaaGreatDoorW.PrintMore
set_option linter.unusedVariables false
set_option linter.unusedSimpArgs false


def sU : Nat → List Int → Int
 | _, [] => 0
 | i, c :: t => (if 148 ≤ i ∧ i < 156 then 32 else c) + sU (i + 1) t
theorem sU_bound : ∀ (l : List Int) (i : Nat), Bytes l → 0 ≤ sU i l ∧ sU i l ≤ 255 * l.length
 | [], _, _ => by simp [sU]
 | c :: t, i, h => by
  have hc := h c (by simp)
  have ht := sU_bound t (i + 1) (fun x hx => h x (by simp [hx]))
  simp only [sU, List.length_cons]
  split <;> constructor <;> push_cast <;> omega
theorem eachU (l : List Int) (hb : Bytes l) (hl : l.length ≤ 100000) : ∀ (d : Nat) (i : Nat) (n : Int), l.length - i = d → i ≤ l.length → 0 ≤ n → n ≤ 255 * i →
  Ev (fun k => sum_each_u.l0 k n l (l.length : Int) (i : Int)) (n + sU i (l.drop i))
 | 0, i, n, hd, hi, h0, h1 => by
  have e : i = l.length := by omega
  subst e
  refine Ev.step (f := fun _ => some n) (fun k => by simp only [sum_each_u.l0]; rw [if_neg (by omega)]) ?_
  rw [List.drop_length]
  simpa [sU] using Ev.now n
 | d + 1, i, n, hd, hi, h0, h1 => by
  have hlt : i < l.length := by omega
  have hx : Bytes [l[i]] := fun x hx => hb x (by simp at hx; rw [hx]; exact List.getElem_mem _)
  have hxr := hx l[i] (by simp)
  have er : rd l (i : Int) = l[i] := by simp [rd, hlt]
  have ed : l.drop i = l[i] :: l.drop (i + 1) := List.drop_eq_getElem_cons hlt
  have ew : wrap64 ((i : Int) + 1) = ((i + 1 : Nat) : Int) := by rw [wrap64_id _ (by omega) (by omega)]; push_cast; rfl
  by_cases h2 : 148 ≤ i ∧ i < 156
  ·have ih := eachU l hb hl d (i + 1) (n + 32) (by omega) (by omega) (by omega) (by push_cast; omega)
   refine Ev.step (f := fun k => sum_each_u.l0 k (n + 32) l (l.length : Int) ((i + 1 : Nat) : Int)) (fun k => ?_) ?_
   ·simp only [sum_each_u.l0]
    rw [if_pos (by omega), if_pos (by omega), if_pos (by omega), if_pos (by omega), if_pos (by omega)]
    rw [show sum_lit100.f 32 = some 32 by unfold sum_lit100.f; rw [wrap64_id 32 (by omega) (by omega)], Option.bind_some]
    rw [ew, wrap64_id (n + 32) (by omega) (by omega)]
   ·rw [ed]
    simp only [sU]
    rw [if_pos h2, ← Int.add_assoc]
    exact ih
  ·have ih := eachU l hb hl d (i + 1) (n + l[i]) (by omega) (by omega) (by omega) (by push_cast; omega)
   refine Ev.step (f := fun k => sum_each_u.l0 k (n + l[i]) l (l.length : Int) ((i + 1 : Nat) : Int)) (fun k => ?_) ?_
   ·simp only [sum_each_u.l0]
    rw [if_pos (by omega), if_pos (by omega), if_pos (by omega)]
    rw [show sum_lit100.f (rd l (i : Int)) = some l[i] by rw [er]; unfold sum_lit100.f; rw [wrap64_id l[i] (by omega) (by omega)], Option.bind_some]
    rw [ew, wrap64_id (n + l[i]) (by omega) (by omega)]
    by_cases h3 : (i : Int) ≥ 148
    ·rw [if_pos h3, if_neg (by omega)]
    ·rw [if_neg h3]
   ·rw [ed]
    simp only [sU]
    rw [if_neg h2, ← Int.add_assoc]
    exact ih
theorem Unsigned_eq (l : List Int) (hb : Bytes l) (hl : l.length ≤ 100000) : Ev (fun k => sum_Unsigned.f k l) (sU 0 l) := by
 have h := eachU l hb hl l.length 0 0 (by omega) (by omega) (by omega) (by omega)
 rw [List.drop_zero, Int.zero_add] at h
 exact Ev.bind (g := fun k => sum_each_u.f k l) (f := fun _ t => some t) h (Ev.now _)
def sS : Nat → List Int → Int
 | _, [] => 0
 | i, c :: t => (if 148 ≤ i ∧ i < 156 then 32 else if c > 127 then c - 256 else c) + sS (i + 1) t
theorem i8_of (c : Int) (h0 : 0 ≤ c) (h1 : c < 256) : IntKind.i8.wrap c = if c > 127 then c - 256 else c := by
 simp only [IntKind.wrap, IntKind.bits, IntKind.signed]
 simp
 split <;> split <;> omega
theorem eachS (l : List Int) (hb : Bytes l) (hl : l.length ≤ 100000) : ∀ (d : Nat) (i : Nat) (n : Int), l.length - i = d → i ≤ l.length → -128 * i ≤ n → n ≤ 127 * i →
  Ev (fun k => sum_each_s.l0 k n l (l.length : Int) (i : Int)) (n + sS i (l.drop i))
 | 0, i, n, hd, hi, h0, h1 => by
  have e : i = l.length := by omega
  subst e
  refine Ev.step (f := fun _ => some n) (fun k => by simp only [sum_each_s.l0]; rw [if_neg (by omega)]) ?_
  rw [List.drop_length]
  simpa [sS] using Ev.now n
 | d + 1, i, n, hd, hi, h0, h1 => by
  have hlt : i < l.length := by omega
  have hxr := hb l[i] (List.getElem_mem _)
  have er : rd l (i : Int) = l[i] := rd_at l i hlt
  have ed : l.drop i = l[i] :: l.drop (i + 1) := List.drop_eq_getElem_cons hlt
  have ew : wrap64 ((i : Int) + 1) = ((i + 1 : Nat) : Int) := by rw [wrap64_id _ (by omega) (by omega)]; push_cast; rfl
  obtain ⟨c, hc⟩ : ∃ c, c = (if 148 ≤ i ∧ i < 156 then 32 else if l[i] > 127 then l[i] - 256 else l[i]) := ⟨_, rfl⟩
  have hcb : -128 ≤ c ∧ c ≤ 127 := by
   rw [hc]
   split
   ·omega
   ·split <;> omega
  have ih := eachS l hb hl d (i + 1) (n + c) (by omega) (by omega) (by push_cast; omega) (by push_cast; omega)
  refine Ev.step (f := fun k => sum_each_s.l0 k (n + c) l (l.length : Int) ((i + 1 : Nat) : Int)) (fun k => ?_) ?_
  ·simp only [sum_each_s.l0]
   rw [if_pos (by omega), if_pos (by omega), if_pos (by omega)]
   by_cases h2 : 148 ≤ i ∧ i < 156
   ·rw [if_pos h2] at hc
    subst hc
    rw [if_pos (by omega), if_pos (by omega), show sum_lit101.f 32 = some 32 by unfold sum_lit101.f; rw [i8_of 32 (by omega) (by omega), if_neg (by omega), wrap64_id 32 (by omega) (by omega)], Option.bind_some]
    rw [ew, wrap64_id (n + 32) (by omega) (by omega)]
   ·rw [if_neg h2] at hc
    have es : sum_lit101.f (rd l (i : Int)) = some c := by
     rw [er]
     unfold sum_lit101.f
     rw [i8_of _ hxr.1 hxr.2, ← hc, wrap64_id c (by omega) (by omega)]
    rw [es, Option.bind_some]
    rw [ew, wrap64_id (n + c) (by omega) (by omega)]
    by_cases h3 : (i : Int) ≥ 148
    ·rw [if_pos h3, if_neg (by omega)]
    ·rw [if_neg h3]
  ·rw [ed]
   simp only [sS]
   rw [← hc, ← Int.add_assoc]
   exact ih
theorem Signed_eq (l : List Int) (hb : Bytes l) (hl : l.length ≤ 100000) : Ev (fun k => sum_Signed.f k l) (sS 0 l) := by
 have h := eachS l hb hl l.length 0 0 (by omega) (by omega) (by omega) (by omega)
 rw [List.drop_zero, Int.zero_add] at h
 exact Ev.bind (g := fun k => sum_each_s.f k l) (f := fun _ t => some t) h (Ev.now _)

/-! ### Told, Right, Zero -/
def toldF (l : List Int) : Int × Bool := if l.length = 512 then octF ((l.take 156).drop 148) else (0, false)
def rightF (l : List Int) : Bool := (toldF l).2 && (decide ((toldF l).1 = sU 0 l) || decide ((toldF l).1 = sS 0 l))
theorem Told_eq (l : List Int) (hb : Bytes l) : sum_Told.f l = some (toldF l) := by
 unfold sum_Told.f toldF
 by_cases h : l.length = 512
 ·rw [if_pos (by omega), if_pos (by omega), if_pos (by omega), if_pos h]
  unfold num_Octal.f
  rw [if_pos ((bytesB_iff _).2 ((hb.take 156).drop 148))]
  rfl
 ·rw [if_neg (by omega), if_neg h]
theorem Right_eq (l : List Int) (hb : Bytes l) (hl : l.length ≤ 100000) : Ev (fun k => sum_Right.f k l) (rightF l) := by
 unfold sum_Right.f
 rw [Told_eq l hb]
 simp only [Option.bind_some]
 unfold rightF
 cases h2 : (toldF l).2 with
 | false => simpa using Ev.now false
 | true =>
  simp only [if_true, Bool.true_and]
  refine Ev.bind (Unsigned_eq l hb hl) ?_
  by_cases h3 : (toldF l).1 = sU 0 l
  ·simpa [h3] using Ev.now true
  ·simp only [h3, if_false, decide_false, Bool.false_or]
   refine Ev.bind (Signed_eq l hb hl) ?_
   exact Ev.now _
end Go.Proofs.YtkfcfbggojmfkaaGreatDoor.P
end

section
namespace Go.Proofs.YtkfcfbggojmfkaaGreatDoor.P
open Go.RowKit Go.Shelf Go.Lib Go.Proofs.YtkfcfbggojmfkaaGreatDoorW.PrintWords Go.Proofs.YtkfcfbggojmfkaaGreatDoorW.PrintLast Go.Proofs.YtkfcfbggojmfkaaGreatDoorW.PrintMore
set_option linter.unusedVariables false
set_option linter.unusedSimpArgs false


theorem next_i (i : Nat) (h : i < 9223372036854775807) : wrap64 ((i : Int) + 1) = ((i + 1 : Nat) : Int) := by rw [wrap64_id _ (by omega) (by omega)]; push_cast; rfl

def partsM : Nat → List Int → List S64 → List S64 × Bool
 | 0, _, out => (out, true)
 | n + 1, b, out => if b.length < 24 then ([], false) else if (parseF (b.take 12)).2 = true ∧ (parseF ((b.take 24).drop 12)).2 = true ∧ 0 ≤ (parseF (b.take 12)).1 ∧ 0 ≤ (parseF ((b.take 24).drop 12)).1 then (if (parseF (b.take 12)).1 = 0 ∧ (parseF ((b.take 24).drop 12)).1 = 0 then (out, true) else partsM n (b.drop 24) (out ++ [⟨(parseF (b.take 12)).1, (parseF ((b.take 24).drop 12)).1⟩])) else ([], false)
theorem mn_neg (x y : Int) : decide (mn x y < 0) = !(decide (0 ≤ x) && decide (0 ≤ y)) := by
 unfold mn
 by_cases h1 : 0 ≤ x <;> by_cases h2 : 0 ≤ y <;> simp only [h1, h2, decide_true, decide_false, Bool.and_self, Bool.and_true, Bool.and_false, Bool.true_and, Bool.not_true, Bool.not_false, decide_eq_true_eq, decide_eq_false_iff_not] <;> split <;> omega
theorem head_l0 (N : Nat) (hN : N ≤ 21) : ∀ (d i : Nat) (b : List Int) (out : List S64), i + d = N → Bytes b → b.length < 9223372036854775807 → out.length ≤ i → Ev (fun k => head_Parts.l0 k b out (N : Int) (i : Int)) (partsM d b out)
 | 0, i, b, out, hd, hb, hl, ho => by
  refine Ev.step (f := fun _ => some (out, true)) (fun k => ?_) (Ev.now _)
  simp only [head_Parts.l0]
  rw [if_neg (by omega)]
 | d + 1, i, b, out, hd, hb, hl, ho => by
  have hj : ∀ x y, Ev (fun k => head_Parts.j1 k b out x y (N : Int) (i : Int) true) ([], false) := fun x y => Ev.step (f := fun _ => some ([], false)) (fun k => by simp only [head_Parts.j1]; rw [if_pos trivial]) (Ev.now _)
  unfold partsM
  by_cases c1 : b.length < 24
  ·rw [if_pos c1]
   refine Ev.step (f := fun _ => some ([], false)) (fun k => ?_) (Ev.now _)
   simp only [head_Parts.l0]
   rw [if_pos (by omega), if_pos (by omega)]
  ·rw [if_neg c1]
   have ih := head_l0 N hN d (i + 1) (b.drop 24)
   have p1 := Parse_eq (b.take 12) (hb.take 12) (by rw [List.length_take]; omega)
   have p2 := Parse_eq ((b.take 24).drop 12) ((hb.take 24).drop 12) (by rw [List.length_drop, List.length_take]; omega)
   generalize parseF (b.take 12) = q1 at p1 ⊢
   generalize parseF ((b.take 24).drop 12) = q2 at p2 ⊢
   obtain ⟨x, okx⟩ := q1
   obtain ⟨y, oky⟩ := q2
   refine Ev.step (f := fun k => (num_Parse.f k (b.take 12)).bind fun bt176 => ((num_Parse.f k ((b.take 24).drop 12)).bind fun bt183 => (if bt176.2 = true then (if bt183.2 = true then (head_Parts.j1 k b out bt176.1 bt183.1 (N : Int) (i : Int) (decide ((mn bt176.1 bt183.1) < 0))) else (head_Parts.j1 k b out bt176.1 bt183.1 (N : Int) (i : Int) true)) else (head_Parts.j1 k b out bt176.1 bt183.1 (N : Int) (i : Int) true)))) (fun k => ?_) ?_
   ·simp only [head_Parts.l0]
    rw [if_pos (by omega), if_neg (by omega), if_pos (by omega)]
    congr 1
    funext bt
    rw [if_pos (by decide), if_pos (by omega)]
   ·refine Ev.bind p1 (Ev.bind p2 ?_)
    cases okx with
    | false =>
     rw [if_neg (by simp)]
     exact hj x y
    | true =>
     cases oky with
     | false =>
      rw [if_neg (by simp)]
      exact hj x y
     | true =>
      simp only [if_true, true_and]
      rw [mn_neg]
      by_cases h0 : 0 ≤ x ∧ 0 ≤ y
      ·rw [if_pos h0, decide_eq_true h0.1, decide_eq_true h0.2]
       by_cases c2 : x = 0 ∧ y = 0
       ·rw [if_pos c2]
        refine Ev.step (f := fun _ => some (out, true)) (fun k => ?_) (Ev.now _)
        simp only [Bool.and_self, Bool.not_true, head_Parts.j1]
        rw [if_neg (by simp), if_pos c2.1, if_pos c2.2]
       ·rw [if_neg c2]
        have ih2 := ih (out ++ [⟨x, y⟩]) (by omega) (hb.drop 24) (by rw [List.length_drop]; omega) (by rw [List.length_append]; simp only [List.length_cons, List.length_nil]; omega)
        refine Ev.step (fun k => ?_) ih2
        simp only [Bool.and_self, Bool.not_true, head_Parts.j1]
        rw [if_neg (by simp), next_i i (by omega)]
        by_cases c3 : x = 0
        ·rw [if_pos c3, if_neg (fun e => c2 ⟨c3, e⟩), if_pos (by omega), if_pos (by omega)]
        ·rw [if_neg c3, if_pos (by omega), if_pos (by omega)]
      ·rw [if_neg h0]
       have : (!(decide (0 ≤ x) && decide (0 ≤ y))) = true := by
        by_cases h1 : 0 ≤ x <;> by_cases h2 : 0 ≤ y <;> simp_all
       rw [this]
       exact hj x y
theorem clip (a c : Int) (hc : 0 ≤ c) : ∃ n : Nat, mx 0 (mn a c) = n ∧ (n : Int) ≤ c := by
 refine ⟨(mx 0 (mn a c)).toNat, ?_, ?_⟩ <;> unfold mx mn <;> split <;> split <;> omega
def partsR (l : List Int) (a n : Int) : List S64 × Bool := partsM (mx 0 (mn n 21)).toNat (l.drop (mx 0 (mn a 512)).toNat) []
theorem HeadParts_ev (l : List Int) (hb : Bytes l) (hl : l.length ≤ 4611686018427387904) (a1 a2 : Int) : Ev (fun k => head_Parts.f k l a1 a2) (partsR l a1 a2) := by
 obtain ⟨a, ha, ha2⟩ := clip a1 512 (by decide)
 obtain ⟨n, hn, hn2⟩ := clip a2 21 (by decide)
 unfold partsR
 have hq : 0 ≤ mn (l.length : Int) (a : Int) ∧ mn (l.length : Int) (a : Int) ≤ (l.length : Int) ∧ l.drop (mn (l.length : Int) (a : Int)).toNat = l.drop a := by
  unfold mn
  split
  ·exact ⟨by omega, by omega, by rw [Int.toNat_natCast]⟩
  ·exact ⟨by omega, by omega, by rw [Int.toNat_natCast, List.drop_length, List.drop_eq_nil_of_le (by omega)]⟩
 rw [ha, hn, Int.toNat_natCast, Int.toNat_natCast]
 refine Ev.congr (fun k => ?_) (head_l0 n (by omega) n 0 (l.drop a) [] (by omega) (hb.drop a) (by rw [List.length_drop]; omega) (by simp))
 unfold head_Parts.f
 rw [ha, hn, if_pos hq.1, if_pos hq.2.1, hq.2.2]
 rfl
end Go.Proofs.YtkfcfbggojmfkaaGreatDoor.P
end

section
namespace Go.Proofs.YtkfcfbggojmfkaaGreatDoor.P
open Go.RowKit Go.Shelf Go.Lib Go.Proofs.YtkfcfbggojmfkaaGreatDoorW.PrintWords Go.Proofs.YtkfcfbggojmfkaaGreatDoorW.PrintLast Go.Proofs.YtkfcfbggojmfkaaGreatDoorW.PrintMore
set_option linter.unusedVariables false
set_option linter.unusedSimpArgs false

def zArr : Array Value := Array.replicate 512 (Value.int .u8 0)
theorem run_zero_arr (w : World) : (zeroValue 97).run Tryz.prog w = .ok (.agg zArr) w := (zero_of_info (by kernel_rfl : (Tryz.prog.info? 97).map (fun i => (i.zero, i.size)) = some (some (.agg (Array.replicate 512 (Value.int .u8 0))), 512))).1 w
def padF (l : List Int) : List Int := l.take 512 ++ List.replicate (512 - l.length) 0
def sealF (l : List Int) : List Int := (padF l).take 148 ++ (digs 6 (sU 0 (padF l)) ++ [0]) ++ [32] ++ (padF l).drop 156
def sum_Seal.f (l0 : List Int) : Option (List Int) := if bytesB l0 = true then some (sealF l0) else none
theorem padF_length (l : List Int) : (padF l).length = 512 := by
 unfold padF
 rw [List.length_append, List.length_take, List.length_replicate]
 omega
theorem padF_bytes (l : List Int) (h : Bytes l) : Bytes (padF l) := fun x hx => by
 unfold padF at hx
 rcases List.mem_append.1 hx with hx | hx
 ·exact h x (List.mem_of_mem_take hx)
 ·rw [(List.mem_replicate.1 hx).2]; omega
theorem arr_R {W : World} {base g t : Nat} (l : List Int) (hg : W.heap[g]? = some (.cells (l.map (fun x => Value.int .u8 x)).toArray t (0, 0))) (hb : base ≤ g) (hm : l.length ≤ 9223372036854775807) :
  Kd.R (Kd.int .u8) t W base (fun _ => True) (.slice (some ⟨g, 0, none⟩) l.length l.length) l := by
 refine ⟨fun _ _ => trivial, l.map (fun x => Value.int .u8 x), ⟨by simp [Kd.int, Kd.scalar], .inr ⟨g, l.length, _, rfl, hb, hg, Nat.le_refl _, by simpa [maxLen] using hm, by simp [Kd.int, Kd.scalar], by simp only [Kd.int, Kd.scalar, Nat.mul_one]; exact List.take_of_length_le (by simp)⟩⟩, ?_⟩
 refine ⟨by simp [Kd.int, Kd.scalar], fun j p hp => ?_⟩
 obtain ⟨hj, rfl⟩ := List.getElem?_eq_some_iff.1 hp
 show ((l.map (fun x => Value.int .u8 x)).drop (j * 1)).take 1 = [Value.int .u8 l[j]]
 rw [Nat.mul_one, List.drop_eq_getElem_cons (by simpa using hj)]
 simp

/-! ### Unsigned and PutOctal, as they are printed, come to these -/
set_option maxRecDepth 100000 in
set_option maxHeartbeats 2000000 in
theorem sum_Seal.calls (A0 : Option Addr) (c0 : Nat) (l0 : List Int) (r : List Int) (w : World) (hr0 : Kd.C (Kd.int .u8) w A0 l0.length l0) (hc0 : l0.length ≤ c0) (h : sum_Seal.f l0 = some r) :
  Calls Tryz.prog 68 #[.slice A0 l0.length c0] w fun e w' => ∃ v0_ : Value, e = .returned (v0_) ∧ Kd.R (Kd.int .u8) 97 w' w.heap.size (fun _ => True) v0_ r ∧ Below w.heap.size w w' := by
 unfold sum_Seal.f at h
 by_cases hb : bytesB l0 = true
 ·rw [if_pos hb] at h
  rw [bytesB_iff] at hb
  obtain rfl : sealF l0 = r := Option.some.inj h
  clear h
  have hpb := padF_bytes l0 hb
  have hpl := padF_length l0
  obtain ⟨k1, hk1⟩ := (Unsigned_eq (padF l0) hpb (by omega)).rounds
  have hsb := sU_bound (padF l0) 0 hpb
  obtain ⟨k2, hk2⟩ := (PutOctal_eq (sU 0 (padF l0)) 7 (by omega) (by omega) hsb.1 (by omega)).rounds
  have hq : ¬ (sU 0 (padF l0) / 8 ^ (7 - 1) > 0) := by
   have e : (8 : Int) ^ (7 - 1) = 262144 := by decide
   rw [e]
   omega
  rw [if_neg hq] at hk2
  have HR0 := Aside0.mk hr0
  have HC0 := Aside0.mk hc0
  clear hr0 hc0 hq hb hpb
  have hz := run_zero_arr
  have HZ := Aside0.mk (show zArr.toList = List.replicate 512 (Value.int .u8 0) from by unfold zArr; simp)
  have hsz5 : (Tryz.prog.info? 5).map (·.size) = some 1 := by kernel_rfl
  have HU : Aside0 (∀ w1, Kd.C (Kd.int .u8) w1 (some ⟨w.heap.size, 0, none⟩) 512 (padF l0) → Calls Tryz.prog 83 #[.slice (some ⟨w.heap.size, 0, none⟩) 512 512] w1 fun e w' => e = .returned (.int .i64 (sU 0 (padF l0))) ∧ Drawn0 w1 w') := ⟨fun w1 hC => by
   have := sum_Unsigned.calls k1 (some ⟨w.heap.size, 0, none⟩) 512 (padF l0) _ w1 (by rw [hpl]; exact hC) (by omega) hk1
   rw [hpl] at this
   exact this⟩
  have HP := Aside0.mk (fun w2 => num_PutOctal.calls k2 (sU 0 (padF l0)) 7 _ _ w2 hk2)
  have HPL := Aside0.mk hpl
  have HSB := Aside0.mk hsb
  clear hk1 hk2 hpl hsb
  obtain ⟨cs, hcs⟩ : ∃ cs, cs = (l0.take 512).map (fun x => Value.int .u8 x) := ⟨_, rfl⟩
  have HCS := Aside0.mk hcs
  have hcl : cs.length = Nat.min l0.length 512 := by rw [hcs, List.length_map, List.length_take]; exact Nat.min_comm _ _
  have hsrc : 0 < cs.length → (some ⟨w.heap.size, 0, none⟩ : Option Addr) = some ⟨w.heap.size, 0, none⟩ ∧ ∃ ad, A0 = some ad ∧ ∀ j v, cs[j]? = some v → (w.alloc (.cells zArr 97)).cell? (ad.add j) = some v := fun h0 => by
   refine ⟨rfl, ?_⟩
   have hl0 : 0 < l0.length := by rw [hcl] at h0; have : l0.length.min 512 ≤ l0.length := Nat.min_le_left _ _; omega
   obtain ⟨ad, e, _⟩ := Kd.at_int HR0.out 0 (by omega) (by omega)
   refine ⟨ad, e, fun j v hv => ?_⟩
   rw [hcs, List.getElem?_map] at hv
   have hj : j < l0.length := by
    have := List.getElem?_eq_none (l := l0.take 512) (i := j)
    rcases Nat.lt_or_ge j l0.length with h | h
    ·exact h
    ·rw [this (by rw [List.length_take]; omega)] at hv; cases hv
   obtain ⟨ad2, e2, hx⟩ := Kd.at_int HR0.out (j : Int) (by omega) (by omega)
   rw [e] at e2
   cases e2
   rw [Int.toNat_natCast] at hx
   rw [pw_cell_below ((Below.refl _ _).alloc (Nat.le_refl _) _) hx]
   have hj5 : j < 512 := by
    rcases Nat.lt_or_ge j 512 with h | h
    ·exact h
    ·rw [List.getElem?_eq_none (l := l0.take 512) (i := j) (by rw [List.length_take]; omega)] at hv; cases hv
   rw [List.getElem?_take_of_lt hj5, List.getElem?_eq_getElem hj] at hv
   simp only [Option.map_some, Option.some.injEq] at hv
   rw [← hv]
   simp [rd, hj]
  have hgn : (w.alloc (.cells zArr 97)).heap[w.heap.size]? = some (.cells zArr.toList.toArray 97 (0, 0)) := by
   rw [Array.toArray_toList]
   show (w.heap.push (.cells zArr 97))[w.heap.size]? = _
   simp
  have hone : ∀ v ∈ cs, v.oneCell' = true := fun v hv => by
   rw [hcs] at hv
   obtain ⟨x, _, rfl⟩ := List.mem_map.1 hv
   rfl
  have hfit : 0 + cs.length ≤ zArr.toList.length := by
   rw [hcl, HZ.out, List.length_replicate, Nat.zero_add]
   exact Nat.min_le_right _ _
  have hB1 : Below w.heap.size w (w.alloc (.cells zArr 97)) := (Below.refl _ _).alloc (Nat.le_refl _) _
  have K1 := Aside0.mk hcl
  have K2 := Aside0.mk hsrc
  have K3 := Aside0.mk hgn
  have K4 := Aside0.mk hone
  have K5 := Aside0.mk hfit
  have K6 := Aside0.mk hB1
  clear hcs hcl hsrc hgn hone hfit hB1
  go_enter Tryz.func68, Tryz.ntmps68
  go_wp2_with (first
   | (refine wpList_copy_splice rfl (.tmp 6) (.tmp 7) 22 22 rfl 5 Tryz.underlying22 hsz5 (some ⟨w.heap.size, 0, none⟩) A0 512 512 l0.length c0 rfl rfl w.heap.size 0 zArr.toList 97 K3.out cs K1.out K2.out K5.out K4.out w.heap.size w K6.out (Nat.le_refl _) ?_; intro w1 hg1 hb1)
   | (go_at_call 83; fail))
  have hg1' := hg1.out
  have hl1 : splice zArr.toList 0 cs = (padF l0).map (fun x => Value.int .u8 x) := by
   rw [HZ.out, HCS.out]
   unfold splice padF
   rw [List.take_zero, List.nil_append, List.map_append, List.map_replicate, List.drop_replicate, List.length_map, List.length_take]
   congr 2
   omega
  rw [hl1] at hg1'
  have hR1 := arr_R (base := w.heap.size) (padF l0) hg1' (Nat.le_refl _) (by rw [HPL.out]; omega)
  rw [HPL.out] at hR1
  have hC1 := (Kd.R_reads' hR1).2.2
  rw [HPL.out] at hC1
  have HU1 := Aside0.mk (HU.out w1 hC1)
  have HG1 := Aside0.mk hg1'
  have HB1 := Aside0.mk hb1
  clear hg1 hg1' hl1 hR1 hC1 hb1 K1 K2 K3 K4 K5 K6 HU HCS HR0
  obtain ⟨x, hx⟩ : ∃ x, x = padF l0 := ⟨_, rfl⟩
  obtain ⟨dg, hdg⟩ : ∃ dg, dg = digs (7 - 1) (sU 0 x) ++ [0] := ⟨_, rfl⟩
  have hdl : dg.length = 7 := by rw [hdg, List.length_append, digs_length]; rfl
  have hfin : sealF l0 = ((x.take 148 ++ dg ++ x.drop 155).set 155 32) := by
   have hxl : x.length = 512 := by rw [hx]; exact HPL.out
   have h1 : (x.take 148 ++ dg).length = 155 := by rw [List.length_append, List.length_take, hdl, hxl]; rfl
   unfold sealF
   rw [← hx, show digs 6 (sU 0 x) ++ [0] = dg from hdg.symm, List.set_append_right 155 32 (by omega), h1, Nat.sub_self]
   rw [List.drop_eq_getElem_cons (show 155 < x.length by omega), List.set_cons_zero]
   simp
  rw [← hx] at HP HPL HSB HG1 HU1
  rw [← hdg] at HP
  have HFIN := Aside0.mk hfin
  have HDL := Aside0.mk hdl
  clear hx hdg hdl hfin
  have HS := Aside0.mk (fun (w3 : World) (Af : Option Addr) (cf : Nat) (nd : Nat) (hb3 : Below (w1.drewN nd).heap.size (w1.drewN nd) w3) (hCf : Kd.C (Kd.int .u8) w3 Af dg.length dg) =>
   (show w3.heap[w.heap.size]? = some (.cells (x.map (fun x => Value.int .u8 x)).toArray 97 (0, 0)) ∧ Below w.heap.size w w3 ∧
    (0 < (dg.map (fun x => Value.int .u8 x)).length → ∃ ad, Af = some ad ∧ ∀ j v, (dg.map (fun x => Value.int .u8 x))[j]? = some v → w3.cell? (ad.add j) = some v) from by
    refine ⟨(hb3.block w.heap.size ((Array.getElem?_eq_some_iff.1 HG1.out).1)).trans HG1.out, HB1.out.trans ((pw_below_drewN (Below.refl _ _) nd |>.trans hb3).mono HB1.out.size), fun h0 => ?_⟩
    obtain ⟨ad, e, _⟩ := Kd.at_int hCf 0 (by omega) (by rw [HDL.out]; omega)
    refine ⟨ad, e, fun j v hv => ?_⟩
    rw [List.getElem?_map] at hv
    have hj : j < dg.length := by
     rcases Nat.lt_or_ge j dg.length with h | h
     ·exact h
     ·rw [List.getElem?_eq_none h] at hv; cases hv
    obtain ⟨ad2, e2, hx⟩ := Kd.at_int hCf (j : Int) (by omega) (by omega)
    rw [e] at e2
    cases e2
    rw [Int.toNat_natCast] at hx
    rw [hx]
    rw [List.getElem?_eq_getElem hj] at hv
    simp only [Option.map_some, Option.some.injEq] at hv
    rw [← hv]
    simp [rd, hj]))
  have hn2 : (dg.map (fun x => Value.int .u8 x)).length = Nat.min dg.length 364 := by rw [List.length_map, HDL.out]; rfl
  have hfit2 : 148 + (dg.map (fun x => Value.int .u8 x)).length ≤ (x.map (fun x => Value.int .u8 x)).length := by rw [List.length_map, List.length_map, HDL.out, HPL.out]; omega
  have hone2 : ∀ v ∈ dg.map (fun x => Value.int .u8 x), v.oneCell' = true := fun v hv => by
   obtain ⟨x, _, rfl⟩ := List.mem_map.1 hv
   rfl
  have HQ := Aside0.mk (fun (w4 : World) (hg4 : w4.heap[w.heap.size]? = some (.cells (splice (x.map (fun x => Value.int .u8 x)) 148 (dg.map (fun x => Value.int .u8 x))).toArray 97 (0, 0))) (hb4 : Below w.heap.size w w4) =>
   (show w4.cell? ⟨w.heap.size, 155, none⟩ = some (.int .u8 (rd (x.take 148 ++ dg ++ x.drop 155) 155)) ∧ w4.frozen? ⟨w.heap.size, 155, none⟩ = false ∧
    (Kd.R (Kd.int .u8) 97 (w4.setCell ⟨w.heap.size, 155, none⟩ (.int .u8 32)) w.heap.size (fun _ => True) (.slice (some ⟨w.heap.size, 0, none⟩) 512 512) (sealF l0) ∧ Below w.heap.size w (w4.setCell ⟨w.heap.size, 155, none⟩ (.int .u8 32))) from by
    have hl4 : splice (x.map (fun x => Value.int .u8 x)) 148 (dg.map (fun x => Value.int .u8 x)) = (x.take 148 ++ dg ++ x.drop 155).map (fun x => Value.int .u8 x) := by
     unfold splice
     rw [List.length_map, HDL.out, List.map_append, List.map_append, List.map_take, List.map_drop, List.append_assoc]
    rw [hl4] at hg4
    have hyl : (x.take 148 ++ dg ++ x.drop 155).length = 512 := by
     rw [List.length_append, List.length_append, List.length_take, List.length_drop, HDL.out, HPL.out]; rfl
    have hR4 := arr_R (base := w.heap.size) _ hg4 (Nat.le_refl _) (by rw [hyl]; omega)
    obtain ⟨h1, h2⟩ := Kd.R_celln 0 hR4 155 (by omega) (by rw [hyl]; omega)
    have h3 := (Kd.R_putg hR4 155 32).1
    rw [hyl] at h3
    refine ⟨h1, h2, ?_, hb4.setCell (p := ⟨w.heap.size, 155, none⟩) (Nat.le_refl _) _⟩
    rw [HFIN.out]
    exact h3))
  have K1 := Aside0.mk hn2
  have K2 := Aside0.mk hfit2
  have K3 := Aside0.mk hone2
  clear hn2 hfit2 hone2
  go_wp2_with (first
   | (go_at_call 83; refine HU1.out.mono ?_; rintro e w2 ⟨rfl, ⟨nd, rfl⟩⟩)
   | (go_at_call 91; refine (HP.out _).mono ?_; rintro e w3 ⟨vf, rfl, hf, hb3⟩; obtain ⟨Af, cf, ef⟩ := Kd.R_slice hf; subst ef; have hCf := (Kd.R_reads' hf).2.2; obtain ⟨hg3, hB3, hs3⟩ := HS.out w3 Af cf _ hb3 hCf; have HG3 := Aside0.mk hg3; have HB3 := Aside0.mk hB3; have HS3 := Aside0.mk hs3; clear hf hb3 hCf hg3 hB3 hs3)
   | (refine wpList_copy_splice rfl (.tmp 15) (.tmp 16) 22 22 rfl 5 Tryz.underlying22 hsz5 (some ⟨w.heap.size, 148, none⟩) Af 364 364 dg.length cf rfl rfl w.heap.size 148 (x.map (fun x => Value.int .u8 x)) 97 HG3.out (dg.map (fun x => Value.int .u8 x)) K1.out (fun h0 => ⟨rfl, HS3.out h0⟩) K2.out K3.out w.heap.size w HB3.out (Nat.le_refl _) ?_; intro w4 hg4 hb4; obtain ⟨hx4, hf4, he4⟩ := HQ.out w4 hg4.out hb4; have HE := Aside0.mk he4; clear he4 hg4 hb4))
  go_ret
  exact ⟨_, rfl, HE.out.1, HE.out.2⟩
 ·rw [if_neg hb] at h
  cases h
end Go.Proofs.YtkfcfbggojmfkaaGreatDoor.P
end

section
namespace Go.Proofs.YtkfcfbggojmfkaaGreatDoor.P
open Go.RowKit Go.Shelf Go.Lib Go.Proofs.YtkfcfbggojmfkaaGreatDoorW.PrintWords Go.Proofs.YtkfcfbggojmfkaaGreatDoorW.PrintLast Go.Proofs.YtkfcfbggojmfkaaGreatDoorW.PrintMore
set_option linter.unusedVariables false
set_option linter.unusedSimpArgs false

theorem Bytes.set {l : List Int} (h : Bytes l) (i : Nat) (v : Int) (hv : 0 ≤ v ∧ v < 256) : Bytes (l.set i v) := fun x hx => by
 rcases List.mem_or_eq_of_mem_set hx with hx | rfl
 ·exact h x hx
 ·exact hv
theorem Bytes.append {l m : List Int} (h : Bytes l) (k : Bytes m) : Bytes (l ++ m) := fun x hx => (List.mem_append.1 hx).elim (h x) (k x)
theorem Bytes.replicate (n : Nat) : Bytes (List.replicate n 0) := fun x hx => by rw [(List.mem_replicate.1 hx).2]; omega

/-! ### Signed: the sum, less 256 for each byte above 127 -/
theorem sealF_length (l : List Int) : (sealF l).length = 512 := by
 have h := padF_length l
 unfold sealF
 simp only [List.length_append, List.length_take, List.length_drop, digs_length, h, List.length_cons, List.length_nil]
 omega
theorem sealF_bytes (l : List Int) (hb : Bytes l) : Bytes (sealF l) := by
 have h := padF_bytes l hb
 unfold sealF
 refine (((h.take 148).append ((digs_bytes 6 _).append ?_)).append ?_).append (h.drop 156)
 ·exact fun x hx => by simp at hx; omega
 ·exact fun x hx => by simp at hx; omega

/-! ### the chapter's examples -/
theorem sU_low : ∀ (l : List Int) (i : Nat), i + l.length ≤ 148 → sU i l = l.sum
 | [], _, _ => rfl
 | c :: t, i, h => by
  rw [List.length_cons] at h
  simp only [sU, List.sum_cons]
  rw [if_neg (by omega), sU_low t (i + 1) (by omega)]
theorem sU_high : ∀ (l : List Int) (i : Nat), 156 ≤ i → sU i l = l.sum
 | [], _, _ => rfl
 | c :: t, i, h => by
  simp only [sU, List.sum_cons]
  rw [if_neg (by omega), sU_high t (i + 1) (by omega)]
theorem sU_mid : ∀ (l : List Int) (i : Nat), 148 ≤ i → i + l.length ≤ 156 → sU i l = 32 * l.length
 | [], _, _, _ => rfl
 | c :: t, i, h, h2 => by
  rw [List.length_cons] at h2
  simp only [sU, List.length_cons]
  rw [if_pos (by omega), sU_mid t (i + 1) (by omega) (by omega)]
  push_cast
  omega
theorem sU_append : ∀ (a b : List Int) (i : Nat), sU i (a ++ b) = sU i a + sU (i + a.length) b
 | [], b, i => by simp [sU]
 | c :: t, b, i => by
  simp only [List.cons_append, sU, List.length_cons]
  rw [sU_append t b (i + 1), show i + 1 + t.length = i + (t.length + 1) by omega]
  omega
theorem sU_parts (a f b : List Int) (ha : a.length = 148) (hf : f.length = 8) : sU 0 (a ++ f ++ b) = a.sum + 256 + b.sum := by
 rw [sU_append, sU_append, sU_low a 0 (by omega), sU_mid f _ (by omega) (by omega), sU_high b _ (by rw [List.length_append]; omega), hf]
 rfl
theorem split512 (l : List Int) (h : l.length = 512) : l = l.take 148 ++ (l.drop 148).take 8 ++ l.drop 156 := by
 conv => lhs; rw [← List.take_append_drop 148 l, ← List.take_append_drop 8 (l.drop 148), List.drop_drop]
 rw [List.append_assoc]
theorem sU_512 (l : List Int) (h : l.length = 512) : sU 0 l = (l.take 148).sum + 256 + (l.drop 156).sum := by
 conv => lhs; rw [split512 l h]
 exact sU_parts _ _ _ (by rw [List.length_take]; omega) (by rw [List.length_take, List.length_drop]; omega)

/-! ### what is sealed is right -/
theorem told_seal (l : List Int) (hb : Bytes l) : toldF (sealF l) = (sU 0 (padF l), true) := by
 have hsb := sU_bound (padF l) 0 (padF_bytes l hb)
 have hpl := padF_length l
 unfold toldF
 rw [if_pos (sealF_length l)]
 have e : ((sealF l).take 156).drop 148 = digs 6 (sU 0 (padF l)) ++ [0, 32] := by
  unfold sealF
  have h1 : ((padF l).take 148).length = 148 := by rw [List.length_take]; omega
  have h2 : ((padF l).take 148 ++ (digs 6 (sU 0 (padF l)) ++ [0]) ++ [32]).length = 156 := by
   rw [List.length_append, List.length_append, List.length_append, h1, digs_length]; rfl
  rw [List.take_append_of_le_length (by omega), List.take_of_length_le (by omega), List.append_assoc, List.drop_append_of_le_length (by omega), List.drop_eq_nil_of_le (by omega)]
  simp
 rw [e]
 have e6 : (8 : Int) ^ 6 = 262144 := by decide
 exact octF_digs 6 _ hsb.1 (by omega) (by rw [e6]; omega) (by omega) [0, 32] (by decide)
theorem sU_seal (l : List Int) : sU 0 (sealF l) = sU 0 (padF l) := by
 have hpl := padF_length l
 rw [sU_512 (padF l) hpl]
 unfold sealF
 rw [List.append_assoc ((padF l).take 148)]
 exact sU_parts _ _ _ (by rw [List.length_take]; omega) (by rw [List.length_append, List.length_append, digs_length]; rfl)
theorem right_seal (l : List Int) (hb : Bytes l) : rightF (sealF l) = true := by
 unfold rightF
 rw [told_seal l hb, sU_seal l]
 simp

theorem padF_id (z : List Int) (hz : z.length = 512) : padF z = z := by
 unfold padF
 rw [List.take_of_length_le (by omega), hz]
 simp
theorem seal_front (x : List Int) : (sealF x).take 148 = (padF x).take 148 := by
 have hp := padF_length x
 have h1 : ((padF x).take 148).length = 148 := by rw [List.length_take]; omega
 unfold sealF
 rw [List.append_assoc, List.append_assoc, List.take_append_of_le_length (by omega), List.take_of_length_le (by omega)]
theorem seal_back (x : List Int) : (sealF x).drop 156 = (padF x).drop 156 := by
 have hp := padF_length x
 have h1 : ((padF x).take 148).length = 148 := by rw [List.length_take]; omega
 have h2 : ((padF x).take 148 ++ (digs 6 (sU 0 (padF x)) ++ [0]) ++ [32]).length = 156 := by
  rw [List.length_append, List.length_append, List.length_append, h1, digs_length]; rfl
 unfold sealF
 rw [List.drop_append_of_le_length (by omega), List.drop_eq_nil_of_le (by omega), List.nil_append]
def Low (l : List Int) : Prop := ∀ x ∈ l, 0 ≤ x ∧ x < 128
theorem Low.bytes {l : List Int} (h : Low l) : Bytes l := fun x hx => by have := h x hx; omega
theorem Low.set {l : List Int} (h : Low l) (i : Nat) (v : Int) (hv : 0 ≤ v ∧ v < 128) : Low (l.set i v) := fun x hx => by
 rcases List.mem_or_eq_of_mem_set hx with hx | rfl
 ·exact h x hx
 ·exact hv
end Go.Proofs.YtkfcfbggojmfkaaGreatDoor.P
end
