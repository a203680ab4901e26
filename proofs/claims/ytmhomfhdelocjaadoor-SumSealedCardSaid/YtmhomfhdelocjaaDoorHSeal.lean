/- sum.Seal: what it hands back, for every slice of bytes. No conditions. -/
import Derived.Test.YtmhomfhdelocjaaDoorPx1
import Derived.Test.YtmhomfhdelocjaaDoorHOct
import Derived.Test.YtmhomfhdelocjaaDoorHZero
import Derived.Laws.CopyOwn
namespace Go.Proofs.YtmhomfhdelocjaaDoor.P
open Go.RowKit Go.Shelf Go.Lib Go.Proofs.YtmhomfhdelocjaaDoorW.PrintWords Go.Proofs.YtmhomfhdelocjaaDoorW.PrintLast Go.Proofs.YtmhomfhdelocjaaDoorW.PrintMore
set_option linter.unusedVariables false
set_option linter.unusedSimpArgs false

/-- A block's sum, from the i-th byte on. -/
def sU : Nat → List Int → Int
  | _, [] => 0
  | i, c :: t => (if 148 ≤ i ∧ i < 156 then 32 else c) + sU (i + 1) t
/-- So many digits of a number, by eights. -/
def digs : Nat → Int → List Int
  | 0, _ => []
  | m + 1, n => digs m (n / 8) ++ [48 + n % 8]
/-- A block's bytes: those of l, and noughts. -/
def padF (l : List Int) : List Int := l.take 512 ++ List.replicate (512 - l.length) 0
def sealF (l : List Int) : List Int := (padF l).take 148 ++ (digs 6 (sU 0 (padF l)) ++ [0]) ++ [32] ++ (padF l).drop 156
def sum_Seal.f (l0 : List Int) : Option (List Int) := if bytesB l0 = true then some (sealF l0) else none

theorem sU_bound : ∀ (l : List Int) (i : Nat), Bytes l → 0 ≤ sU i l ∧ sU i l ≤ 255 * l.length
  | [], _, _ => by simp [sU]
  | c :: t, i, h => by
    have hc := h c (by simp)
    have ht := sU_bound t (i + 1) (fun x hx => h x (by simp [hx]))
    simp only [sU, List.length_cons]
    split <;> constructor <;> push_cast <;> omega
theorem padF_length (l : List Int) : (padF l).length = 512 := by
  unfold padF
  rw [List.length_append, List.length_take, List.length_replicate]
  omega
theorem padF_bytes (l : List Int) (h : Bytes l) : Bytes (padF l) := fun x hx => by
  unfold padF at hx
  rcases List.mem_append.1 hx with hx | hx
  · exact h x (List.mem_of_mem_take hx)
  · rw [(List.mem_replicate.1 hx).2]; omega
theorem digs_length : ∀ (m : Nat) (n : Int), (digs m n).length = m
  | 0, _ => rfl
  | m + 1, n => by simp [digs, digs_length m]
theorem digs_bytes : ∀ (m : Nat) (n : Int), Bytes (digs m n)
  | 0, _ => by simp [digs, Bytes]
  | m + 1, n => fun x hx => by
    simp only [digs, List.mem_append, List.mem_singleton] at hx
    rcases hx with hx | rfl
    · exact digs_bytes m _ x hx
    · omega

/-- A block of bytes, whole, as a row of the call's own. -/
theorem arr_R {W : World} {base g t : Nat} (l : List Int) (hg : W.heap[g]? = some (.cells (l.map (fun x => Value.int .u8 x)).toArray t (0, 0))) (hb : base ≤ g) (hm : l.length ≤ 9223372036854775807) :
    Kd.R (Kd.int .u8) t W base (fun _ => True) (.slice (some ⟨g, 0, none⟩) l.length l.length) l := by
  refine ⟨fun _ _ => trivial, l.map (fun x => Value.int .u8 x), ⟨by simp [Kd.int, Kd.scalar], .inr ⟨g, l.length, _, rfl, hb, hg, Nat.le_refl _, by simpa [maxLen] using hm, by simp [Kd.int, Kd.scalar], by simp only [Kd.int, Kd.scalar, Nat.mul_one]; exact List.take_of_length_le (by simp)⟩⟩, ?_⟩
  refine ⟨by simp [Kd.int, Kd.scalar], fun j p hp => ?_⟩
  obtain ⟨hj, rfl⟩ := List.getElem?_eq_some_iff.1 hp
  show ((l.map (fun x => Value.int .u8 x)).drop (j * 1)).take 1 = [Value.int .u8 l[j]]
  rw [Nat.mul_one, List.drop_eq_getElem_cons (by simpa using hj)]
  simp

/-! ### Unsigned and PutOctal, as they are printed, come to these -/
theorem wrap64_id (x : Int) (h0 : -9223372036854775808 ≤ x) (h1 : x ≤ 9223372036854775807) : wrap64 x = x := by
  unfold wrap64
  omega
theorem eachU (l : List Int) (hb : Bytes l) (hl : l.length ≤ 100000) : ∀ (d : Nat) (i : Nat) (n : Int), l.length - i = d → i ≤ l.length → 0 ≤ n → n ≤ 255 * i →
    Ev (fun k => sum_each_u.l0 k n l (l.length : Int) (i : Int)) (n + sU i (l.drop i))
  | 0, i, n, hd, hi, h0, h1 => by
    have e : i = l.length := by omega
    subst e
    refine Ev.step (f := fun _ => some n) (fun k => by simp only [sum_each_u.l0]; rw [if_neg (by omega)]) ?_
    rw [List.drop_length]
    simpa [sU] using Ev.now n
  | d + 1, i, n, hd, hi, h0, h1 => by
    have hlt : i < l.length := by omega
    have hx : Bytes [l[i]] := fun x hx => hb x (by simp at hx; rw [hx]; exact List.getElem_mem _)
    have hxr := hx l[i] (by simp)
    have er : rd l (i : Int) = l[i] := by simp [rd, hlt]
    have ed : l.drop i = l[i] :: l.drop (i + 1) := List.drop_eq_getElem_cons hlt
    have ew : wrap64 ((i : Int) + 1) = ((i + 1 : Nat) : Int) := by rw [wrap64_id _ (by omega) (by omega)]; push_cast; rfl
    by_cases h2 : 148 ≤ i ∧ i < 156
    · have ih := eachU l hb hl d (i + 1) (n + 32) (by omega) (by omega) (by omega) (by push_cast; omega)
      refine Ev.step (f := fun k => sum_each_u.l0 k (n + 32) l (l.length : Int) ((i + 1 : Nat) : Int)) (fun k => ?_) ?_
      · simp only [sum_each_u.l0]
        rw [if_pos (by omega), if_pos (by omega), if_pos (by omega), if_pos (by omega), if_pos (by omega)]
        rw [show sum_lit28.f 32 = some 32 by unfold sum_lit28.f; rw [wrap64_id 32 (by omega) (by omega)], Option.bind_some]
        rw [ew, wrap64_id (n + 32) (by omega) (by omega)]
      · rw [ed]
        simp only [sU]
        rw [if_pos h2, ← Int.add_assoc]
        exact ih
    · have ih := eachU l hb hl d (i + 1) (n + l[i]) (by omega) (by omega) (by omega) (by push_cast; omega)
      refine Ev.step (f := fun k => sum_each_u.l0 k (n + l[i]) l (l.length : Int) ((i + 1 : Nat) : Int)) (fun k => ?_) ?_
      · simp only [sum_each_u.l0]
        rw [if_pos (by omega), if_pos (by omega), if_pos (by omega)]
        rw [show sum_lit28.f (rd l (i : Int)) = some l[i] by rw [er]; unfold sum_lit28.f; rw [wrap64_id l[i] (by omega) (by omega)], Option.bind_some]
        rw [ew, wrap64_id (n + l[i]) (by omega) (by omega)]
        by_cases h3 : (i : Int) ≥ 148
        · rw [if_pos h3, if_neg (by omega)]
        · rw [if_neg h3]
      · rw [ed]
        simp only [sU]
        rw [if_neg h2, ← Int.add_assoc]
        exact ih
theorem Unsigned_eq (l : List Int) (hb : Bytes l) (hl : l.length ≤ 100000) : Ev (fun k => sum_Unsigned.f k l) (sU 0 l) := by
  have h := eachU l hb hl l.length 0 0 (by omega) (by omega) (by omega) (by omega)
  rw [List.drop_zero, Int.zero_add] at h
  exact Ev.bind (g := fun k => sum_each_u.f k l) (f := fun _ t => some t) h (Ev.now _)

theorem wraps_i64 : ∀ n : Int, 0 ≤ n → n < 2 ^ 63 → IntKind.i64.wrap n = n := fun n h0 h1 => by
  have e : (2 : Int) ^ 63 = 9223372036854775808 := by decide
  rw [IntKind.wrap_i64]
  omega
theorem and7 (n : Int) (h : 0 ≤ n) (h1 : n ≤ 4611686018427387904) : Go.bits .and .i64 n 7 = n % 8 := by
  have e : (2 : Int) ^ 63 = 9223372036854775808 := by decide
  exact bits_mask .i64 63 (by decide) wraps_i64 3 (by decide) n h (by omega)
theorem set_at_end (m : Nat) (tail : List Int) (v : Int) : (List.replicate (m + 1) 0 ++ tail).set m v = List.replicate m 0 ++ (v :: tail) := by
  rw [List.replicate_succ', List.append_assoc, List.set_append_right m v (by simp)]
  simp
/-- The digits are laid from behind. -/
theorem putLoop (size : Nat) (hs : 2 ≤ size) (hs2 : size ≤ 32) : ∀ (d i : Nat) (n : Int) (tail : List Int), size - 1 - i = d → i ≤ size - 1 → 0 ≤ n → n ≤ 4611686018427387904 → tail.length = i + 1 →
    Ev (fun k => num_PutOctal.l0 k n (size : Int) (List.replicate d 0 ++ tail) ((size - 1 : Nat) : Int) (i : Int)) (if n / 8 ^ d > 0 then ([], false) else (digs d n ++ tail, true))
  | 0, i, n, tail, hd, hi, h0, h1, ht => by
    refine Ev.step (f := fun _ => some (if n / 8 ^ 0 > 0 then ([], false) else (digs 0 n ++ tail, true))) (fun k => ?_) (Ev.now _)
    simp only [num_PutOctal.l0]
    rw [if_neg (by omega)]
    simp only [Int.pow_zero, Int.ediv_one, digs, List.nil_append, List.replicate_zero]
    split <;> rfl
  | d + 1, i, n, tail, hd, hi, h0, h1, ht => by
    have ih := putLoop size hs hs2 d (i + 1) (n / 8) ((48 + n % 8) :: tail) (by omega) (by omega) (by omega) (by omega) (by simp [ht])
    have e1 : wrap64 ((size : Int) - 2) = (size : Int) - 2 := wrap64_id _ (by omega) (by omega)
    have e2 : wrap64 ((size : Int) - 2 - (i : Int)) = (d : Int) := by rw [wrap64_id _ (by omega) (by omega)]; omega
    have e3 : wrap64 ((i : Int) + 1) = ((i + 1 : Nat) : Int) := by rw [wrap64_id _ (by omega) (by omega)]; push_cast; rfl
    have e4 : ((48 + (n % 8) % 256) % 256 : Int) = 48 + n % 8 := by omega
    have e5 : (if n / 8 ^ (d + 1) > 0 then (([], false) : List Int × Bool) else (digs (d + 1) n ++ tail, true)) = (if n / 8 / 8 ^ d > 0 then ([], false) else (digs d (n / 8) ++ ((48 + n % 8) :: tail), true)) := by
      rw [show n / 8 / 8 ^ d = n / 8 ^ (d + 1) by rw [Int.pow_succ', Int.ediv_ediv_of_nonneg (by omega)]]
      simp only [digs, List.append_assoc, List.singleton_append]
    rw [e5]
    refine Ev.step (fun k => ?_) ih
    simp only [num_PutOctal.l0]
    rw [if_pos (by omega), e1, e2, if_pos (by omega), if_pos (by simp; omega), e3, and7 n h0 h1, e4, Int.toNat_natCast, set_at_end]
theorem PutOctal_eq (n : Int) (size : Nat) (hs : 2 ≤ size) (hs2 : size ≤ 32) (h0 : 0 ≤ n) (h1 : n ≤ 4611686018427387904) :
    Ev (fun k => num_PutOctal.f k n (size : Int)) (if n / 8 ^ (size - 1) > 0 then ([], false) else (digs (size - 1) n ++ [0], true)) := by
  have h := putLoop size hs hs2 (size - 1) 0 n [0] (by omega) (by omega) h0 h1 rfl
  have e : List.replicate (size - 1) (0 : Int) ++ [0] = List.replicate size 0 := by
    rw [← List.replicate_succ']; congr 1; omega
  rw [e] at h
  have hj : Ev (fun k => num_PutOctal.j0 k n (size : Int) false) (if n / 8 ^ (size - 1) > 0 then ([], false) else (digs (size - 1) n ++ [0], true)) := by
    refine Ev.step (fun k => ?_) h
    simp only [num_PutOctal.j0]
    rw [if_neg (by simp), if_pos (by omega), if_pos (by omega), Int.toNat_natCast, wrap64_id _ (by omega) (by omega)]
    congr 1
    omega
  refine Ev.congr (fun k => ?_) hj
  unfold num_PutOctal.f num_wide.f
  rw [if_pos (by omega), Option.bind_some, show decide ((size : Int) ≤ 32) = true from decide_eq_true (by omega), if_pos rfl, if_neg (by omega), show decide (n > 4611686018427387904) = false from decide_eq_false (by omega)]

set_option maxRecDepth 100000 in
set_option maxHeartbeats 2000000 in
theorem sum_Seal.calls (A0 : Option Addr) (c0 : Nat) (l0 : List Int) (r : List Int) (w : World) (hr0 : Kd.C (Kd.int .u8) w A0 l0.length l0) (hc0 : l0.length ≤ c0) (h : sum_Seal.f l0 = some r) :
    Calls Tryd.prog 9 #[.slice A0 l0.length c0] w fun e w' => ∃ v0_ : Value, e = .returned (v0_) ∧ Kd.R (Kd.int .u8) 37 w' w.heap.size (fun _ => True) v0_ r ∧ Below w.heap.size w w' := by
  unfold sum_Seal.f at h
  by_cases hb : bytesB l0 = true
  · rw [if_pos hb] at h
    rw [bytesB_iff] at hb
    obtain rfl : sealF l0 = r := Option.some.inj h
    clear h
    have hpb := padF_bytes l0 hb
    have hpl := padF_length l0
    obtain ⟨k1, hk1⟩ := (Unsigned_eq (padF l0) hpb (by omega)).rounds
    have hsb := sU_bound (padF l0) 0 hpb
    obtain ⟨k2, hk2⟩ := (PutOctal_eq (sU 0 (padF l0)) 7 (by omega) (by omega) hsb.1 (by omega)).rounds
    have hq : ¬ (sU 0 (padF l0) / 8 ^ (7 - 1) > 0) := by
      have e : (8 : Int) ^ (7 - 1) = 262144 := by decide
      rw [e]
      omega
    rw [if_neg hq] at hk2
    have HR0 := Aside0.mk hr0
    have HC0 := Aside0.mk hc0
    clear hr0 hc0 hq hb hpb
    have hz := run_zero_arr
    have HZ := Aside0.mk (show zArr.toList = List.replicate 512 (Value.int .u8 0) from by unfold zArr; simp)
    have hsz5 : (Tryd.prog.info? 5).map (·.size) = some 1 := by kernel_rfl
    have HU : Aside0 (∀ w1, Kd.C (Kd.int .u8) w1 (some ⟨w.heap.size, 0, none⟩) 512 (padF l0) → Calls Tryd.prog 17 #[.slice (some ⟨w.heap.size, 0, none⟩) 512 512] w1 fun e w' => e = .returned (.int .i64 (sU 0 (padF l0))) ∧ Drawn0 w1 w') := ⟨fun w1 hC => by
      have := sum_Unsigned.calls k1 (some ⟨w.heap.size, 0, none⟩) 512 (padF l0) _ w1 (by rw [hpl]; exact hC) (by omega) hk1
      rw [hpl] at this
      exact this⟩
    have HP := Aside0.mk (fun w2 => num_PutOctal.calls k2 (sU 0 (padF l0)) 7 _ _ w2 hk2)
    have HPL := Aside0.mk hpl
    have HSB := Aside0.mk hsb
    clear hk1 hk2 hpl hsb
    obtain ⟨cs, hcs⟩ : ∃ cs, cs = (l0.take 512).map (fun x => Value.int .u8 x) := ⟨_, rfl⟩
    have HCS := Aside0.mk hcs
    have hcl : cs.length = Nat.min l0.length 512 := by rw [hcs, List.length_map, List.length_take]; exact Nat.min_comm _ _
    have hsrc : 0 < cs.length → (some ⟨w.heap.size, 0, none⟩ : Option Addr) = some ⟨w.heap.size, 0, none⟩ ∧ ∃ ad, A0 = some ad ∧ ∀ j v, cs[j]? = some v → (w.alloc (.cells zArr 37)).cell? (ad.add j) = some v := fun h0 => by
      refine ⟨rfl, ?_⟩
      have hl0 : 0 < l0.length := by rw [hcl] at h0; have : l0.length.min 512 ≤ l0.length := Nat.min_le_left _ _; omega
      obtain ⟨ad, e, _⟩ := Kd.at_int HR0.out 0 (by omega) (by omega)
      refine ⟨ad, e, fun j v hv => ?_⟩
      rw [hcs, List.getElem?_map] at hv
      have hj : j < l0.length := by
        have := List.getElem?_eq_none (l := l0.take 512) (i := j)
        rcases Nat.lt_or_ge j l0.length with h | h
        · exact h
        · rw [this (by rw [List.length_take]; omega)] at hv; cases hv
      obtain ⟨ad2, e2, hx⟩ := Kd.at_int HR0.out (j : Int) (by omega) (by omega)
      rw [e] at e2
      cases e2
      rw [Int.toNat_natCast] at hx
      rw [pw_cell_below ((Below.refl _ _).alloc (Nat.le_refl _) _) hx]
      have hj5 : j < 512 := by
        rcases Nat.lt_or_ge j 512 with h | h
        · exact h
        · rw [List.getElem?_eq_none (l := l0.take 512) (i := j) (by rw [List.length_take]; omega)] at hv; cases hv
      rw [List.getElem?_take_of_lt hj5, List.getElem?_eq_getElem hj] at hv
      simp only [Option.map_some, Option.some.injEq] at hv
      rw [← hv]
      simp [rd, hj]
    have hgn : (w.alloc (.cells zArr 37)).heap[w.heap.size]? = some (.cells zArr.toList.toArray 37 (0, 0)) := by
      rw [Array.toArray_toList]
      show (w.heap.push (.cells zArr 37))[w.heap.size]? = _
      simp
    have hone : ∀ v ∈ cs, v.oneCell' = true := fun v hv => by
      rw [hcs] at hv
      obtain ⟨x, _, rfl⟩ := List.mem_map.1 hv
      rfl
    have hfit : 0 + cs.length ≤ zArr.toList.length := by
      rw [hcl, HZ.out, List.length_replicate, Nat.zero_add]
      exact Nat.min_le_right _ _
    have hB1 : Below w.heap.size w (w.alloc (.cells zArr 37)) := (Below.refl _ _).alloc (Nat.le_refl _) _
    have K1 := Aside0.mk hcl
    have K2 := Aside0.mk hsrc
    have K3 := Aside0.mk hgn
    have K4 := Aside0.mk hone
    have K5 := Aside0.mk hfit
    have K6 := Aside0.mk hB1
    clear hcs hcl hsrc hgn hone hfit hB1
    go_enter Tryd.func9, Tryd.ntmps9
    go_wp2_with (first
      | (refine wpList_copy_splice rfl (.tmp 6) (.tmp 7) 22 22 rfl 5 Tryd.underlying22 hsz5 (some ⟨w.heap.size, 0, none⟩) A0 512 512 l0.length c0 rfl rfl w.heap.size 0 zArr.toList 37 K3.out cs K1.out K2.out K5.out K4.out w.heap.size w K6.out (Nat.le_refl _) ?_; intro w1 hg1 hb1)
      | (go_at_call 17; fail))
    have hg1' := hg1.out
    have hl1 : splice zArr.toList 0 cs = (padF l0).map (fun x => Value.int .u8 x) := by
      rw [HZ.out, HCS.out]
      unfold splice padF
      rw [List.take_zero, List.nil_append, List.map_append, List.map_replicate, List.drop_replicate, List.length_map, List.length_take]
      congr 2
      omega
    rw [hl1] at hg1'
    have hR1 := arr_R (base := w.heap.size) (padF l0) hg1' (Nat.le_refl _) (by rw [HPL.out]; omega)
    rw [HPL.out] at hR1
    have hC1 := (Kd.R_reads' hR1).2.2
    rw [HPL.out] at hC1
    have HU1 := Aside0.mk (HU.out w1 hC1)
    have HG1 := Aside0.mk hg1'
    have HB1 := Aside0.mk hb1
    clear hg1 hg1' hl1 hR1 hC1 hb1 K1 K2 K3 K4 K5 K6 HU HCS HR0
    obtain ⟨x, hx⟩ : ∃ x, x = padF l0 := ⟨_, rfl⟩
    obtain ⟨dg, hdg⟩ : ∃ dg, dg = digs (7 - 1) (sU 0 x) ++ [0] := ⟨_, rfl⟩
    have hdl : dg.length = 7 := by rw [hdg, List.length_append, digs_length]; rfl
    have hfin : sealF l0 = ((x.take 148 ++ dg ++ x.drop 155).set 155 32) := by
      have hxl : x.length = 512 := by rw [hx]; exact HPL.out
      have h1 : (x.take 148 ++ dg).length = 155 := by rw [List.length_append, List.length_take, hdl, hxl]; rfl
      unfold sealF
      rw [← hx, show digs 6 (sU 0 x) ++ [0] = dg from hdg.symm, List.set_append_right 155 32 (by omega), h1, Nat.sub_self]
      rw [List.drop_eq_getElem_cons (show 155 < x.length by omega), List.set_cons_zero]
      simp
    rw [← hx] at HP HPL HSB HG1 HU1
    rw [← hdg] at HP
    have HFIN := Aside0.mk hfin
    have HDL := Aside0.mk hdl
    clear hx hdg hdl hfin
    have HS := Aside0.mk (fun (w3 : World) (Af : Option Addr) (cf : Nat) (nd : Nat) (hb3 : Below (w1.drewN nd).heap.size (w1.drewN nd) w3) (hCf : Kd.C (Kd.int .u8) w3 Af dg.length dg) =>
      (show w3.heap[w.heap.size]? = some (.cells (x.map (fun x => Value.int .u8 x)).toArray 37 (0, 0)) ∧ Below w.heap.size w w3 ∧
        (0 < (dg.map (fun x => Value.int .u8 x)).length → ∃ ad, Af = some ad ∧ ∀ j v, (dg.map (fun x => Value.int .u8 x))[j]? = some v → w3.cell? (ad.add j) = some v) from by
        refine ⟨(hb3.block w.heap.size ((Array.getElem?_eq_some_iff.1 HG1.out).1)).trans HG1.out, HB1.out.trans ((pw_below_drewN (Below.refl _ _) nd |>.trans hb3).mono HB1.out.size), fun h0 => ?_⟩
        obtain ⟨ad, e, _⟩ := Kd.at_int hCf 0 (by omega) (by rw [HDL.out]; omega)
        refine ⟨ad, e, fun j v hv => ?_⟩
        rw [List.getElem?_map] at hv
        have hj : j < dg.length := by
          rcases Nat.lt_or_ge j dg.length with h | h
          · exact h
          · rw [List.getElem?_eq_none h] at hv; cases hv
        obtain ⟨ad2, e2, hx⟩ := Kd.at_int hCf (j : Int) (by omega) (by omega)
        rw [e] at e2
        cases e2
        rw [Int.toNat_natCast] at hx
        rw [hx]
        rw [List.getElem?_eq_getElem hj] at hv
        simp only [Option.map_some, Option.some.injEq] at hv
        rw [← hv]
        simp [rd, hj]))
    have hn2 : (dg.map (fun x => Value.int .u8 x)).length = Nat.min dg.length 364 := by rw [List.length_map, HDL.out]; rfl
    have hfit2 : 148 + (dg.map (fun x => Value.int .u8 x)).length ≤ (x.map (fun x => Value.int .u8 x)).length := by rw [List.length_map, List.length_map, HDL.out, HPL.out]; omega
    have hone2 : ∀ v ∈ dg.map (fun x => Value.int .u8 x), v.oneCell' = true := fun v hv => by
      obtain ⟨x, _, rfl⟩ := List.mem_map.1 hv
      rfl
    have HQ := Aside0.mk (fun (w4 : World) (hg4 : w4.heap[w.heap.size]? = some (.cells (splice (x.map (fun x => Value.int .u8 x)) 148 (dg.map (fun x => Value.int .u8 x))).toArray 37 (0, 0))) (hb4 : Below w.heap.size w w4) =>
      (show w4.cell? ⟨w.heap.size, 155, none⟩ = some (.int .u8 (rd (x.take 148 ++ dg ++ x.drop 155) 155)) ∧ w4.frozen? ⟨w.heap.size, 155, none⟩ = false ∧
        (Kd.R (Kd.int .u8) 37 (w4.setCell ⟨w.heap.size, 155, none⟩ (.int .u8 32)) w.heap.size (fun _ => True) (.slice (some ⟨w.heap.size, 0, none⟩) 512 512) (sealF l0) ∧ Below w.heap.size w (w4.setCell ⟨w.heap.size, 155, none⟩ (.int .u8 32))) from by
        have hl4 : splice (x.map (fun x => Value.int .u8 x)) 148 (dg.map (fun x => Value.int .u8 x)) = (x.take 148 ++ dg ++ x.drop 155).map (fun x => Value.int .u8 x) := by
          unfold splice
          rw [List.length_map, HDL.out, List.map_append, List.map_append, List.map_take, List.map_drop, List.append_assoc]
        rw [hl4] at hg4
        have hyl : (x.take 148 ++ dg ++ x.drop 155).length = 512 := by
          rw [List.length_append, List.length_append, List.length_take, List.length_drop, HDL.out, HPL.out]; rfl
        have hR4 := arr_R (base := w.heap.size) _ hg4 (Nat.le_refl _) (by rw [hyl]; omega)
        obtain ⟨h1, h2⟩ := Kd.R_celln 0 hR4 155 (by omega) (by rw [hyl]; omega)
        have h3 := (Kd.R_putg hR4 155 32).1
        rw [hyl] at h3
        refine ⟨h1, h2, ?_, hb4.setCell (p := ⟨w.heap.size, 155, none⟩) (Nat.le_refl _) _⟩
        rw [HFIN.out]
        exact h3))
    have K1 := Aside0.mk hn2
    have K2 := Aside0.mk hfit2
    have K3 := Aside0.mk hone2
    clear hn2 hfit2 hone2
    go_wp2_with (first
      | (go_at_call 17; refine HU1.out.mono ?_; rintro e w2 ⟨rfl, ⟨nd, rfl⟩⟩)
      | (go_at_call 19; refine (HP.out _).mono ?_; rintro e w3 ⟨vf, rfl, hf, hb3⟩; obtain ⟨Af, cf, ef⟩ := Kd.R_slice hf; subst ef; have hCf := (Kd.R_reads' hf).2.2; obtain ⟨hg3, hB3, hs3⟩ := HS.out w3 Af cf _ hb3 hCf; have HG3 := Aside0.mk hg3; have HB3 := Aside0.mk hB3; have HS3 := Aside0.mk hs3; clear hf hb3 hCf hg3 hB3 hs3)
      | (refine wpList_copy_splice rfl (.tmp 15) (.tmp 16) 22 22 rfl 5 Tryd.underlying22 hsz5 (some ⟨w.heap.size, 148, none⟩) Af 364 364 dg.length cf rfl rfl w.heap.size 148 (x.map (fun x => Value.int .u8 x)) 37 HG3.out (dg.map (fun x => Value.int .u8 x)) K1.out (fun h0 => ⟨rfl, HS3.out h0⟩) K2.out K3.out w.heap.size w HB3.out (Nat.le_refl _) ?_; intro w4 hg4 hb4; obtain ⟨hx4, hf4, he4⟩ := HQ.out w4 hg4.out hb4; have HE := Aside0.mk he4; clear he4 hg4 hb4))
    go_ret
    exact ⟨_, rfl, HE.out.1, HE.out.2⟩
  · rw [if_neg hb] at h
    cases h
end Go.Proofs.YtmhomfhdelocjaaDoor.P
