/- The pure statement of SumSealed: what is sealed is right, tells its sum, and is the same sealed again; with one byte another one, elsewhere than in the sum, it is not right. No conditions. -/
import Derived.Test.YtmhomfhdelocjaaDoorHPure
import Derived.Test.YtmhomfhdelocjaaDoorPx7
namespace Go.Proofs.YtmhomfhdelocjaaDoor.Pure
open Go Go.RowKit Go.Proofs.YtmhomfhdelocjaaDoor.P Go.Proofs.YtmhomfhdelocjaaDoorW.PrintWords Go.Proofs.YtmhomfhdelocjaaDoorW.PrintLast

theorem padF_id (z : List Int) (hz : z.length = 512) : padF z = z := by
  unfold padF
  rw [List.take_of_length_le (by omega), hz]
  simp
theorem seal_front (x : List Int) : (sealF x).take 148 = (padF x).take 148 := by
  have hp := padF_length x
  have h1 : ((padF x).take 148).length = 148 := by rw [List.length_take]; omega
  unfold sealF
  rw [List.append_assoc, List.append_assoc, List.take_append_of_le_length (by omega), List.take_of_length_le (by omega)]
theorem seal_back (x : List Int) : (sealF x).drop 156 = (padF x).drop 156 := by
  have hp := padF_length x
  have h1 : ((padF x).take 148).length = 148 := by rw [List.length_take]; omega
  have h2 : ((padF x).take 148 ++ (digs 6 (sU 0 (padF x)) ++ [0]) ++ [32]).length = 156 := by
    rw [List.length_append, List.length_append, List.length_append, h1, digs_length]; rfl
  unfold sealF
  rw [List.drop_append_of_le_length (by omega), List.drop_eq_nil_of_le (by omega), List.nil_append]
theorem seal_pad (z : List Int) : sealF z = (padF z).take 148 ++ (digs 6 (sU 0 (padF z)) ++ [0]) ++ [32] ++ (padF z).drop 156 := rfl
theorem seal_seal (x : List Int) : sealF (sealF x) = sealF x := by
  have e : padF (sealF x) = sealF x := padF_id _ (sealF_length x)
  have h : sealF (sealF x) = (sealF x).take 148 ++ (digs 6 (sU 0 (sealF x)) ++ [0]) ++ [32] ++ (sealF x).drop 156 := by
    exact (seal_pad _).trans (by rw [e])
  rw [h, sU_seal, seal_front, seal_back]
  rfl
/-- Bytes that are small. -/
def Low (l : List Int) : Prop := ∀ x ∈ l, 0 ≤ x ∧ x < 128
theorem Low.bytes {l : List Int} (h : Low l) : Bytes l := fun x hx => by have := h x hx; omega
theorem Low.set {l : List Int} (h : Low l) (i : Nat) (v : Int) (hv : 0 ≤ v ∧ v < 128) : Low (l.set i v) := fun x hx => by
  rcases List.mem_or_eq_of_mem_set hx with hx | rfl
  · exact h x hx
  · exact hv
theorem digs_low : ∀ (m : Nat) (n : Int), Low (digs m n)
  | 0, n => fun x hx => by simp [digs] at hx
  | m + 1, n => fun x hx => by
    simp only [digs, List.mem_append, List.mem_singleton] at hx
    rcases hx with hx | rfl
    · exact digs_low m _ x hx
    · omega
theorem seal_low (x : List Int) (h : Low x) : Low (sealF x) := by
  have hp : Low (padF x) := fun c hc => by
    unfold padF at hc
    rcases List.mem_append.1 hc with hc | hc
    · exact h c (List.mem_of_mem_take hc)
    · rw [(List.mem_replicate.1 hc).2]; omega
  intro c hc
  unfold sealF at hc
  simp only [List.mem_append, List.mem_singleton] at hc
  rcases hc with ((hc | (hc | rfl)) | rfl) | hc
  · exact hp c (List.mem_of_mem_take hc)
  · exact digs_low 6 _ c hc
  · omega
  · omega
  · exact hp c (List.mem_of_mem_drop hc)
theorem sS_low : ∀ (l : List Int) (i : Nat), Low l → sS i l = sU i l
  | [], _, _ => by simp [sU, sS]
  | c :: t, i, h => by
    have hc := h c (by simp)
    simp only [sU, sS]
    rw [sS_low t (i + 1) (fun x hx => h x (by simp [hx])), if_neg (show ¬ c > 127 by omega)]
theorem sum_set1 : ∀ (l : List Int) (i : Nat) (v : Int) (h : i < l.length), (l.set i v).sum = l.sum - l[i] + v
  | c :: t, 0, v, _ => by simp; omega
  | c :: t, i + 1, v, h => by
    simp only [List.length_cons] at h
    simp only [List.set_cons_succ, List.sum_cons, List.getElem_cons_succ]
    rw [sum_set1 t i v (by omega)]
    omega
set_option maxRecDepth 20000 in
theorem set_sU (y : List Int) (hy : y.length = 512) (i : Nat) (hi : i < 148 ∨ 156 ≤ i) (h5 : i < 512) (v : Int) : sU 0 (y.set i v) = sU 0 y - y[i] + v := by
  have hl : (y.set i v).length = 512 := by rw [List.length_set, hy]
  rw [sU_512 _ hl, sU_512 y hy]
  rcases hi with hi | hi
  · have e1 : (y.set i v).take 148 = (y.take 148).set i v := by rw [List.take_set]
    have h1 : i < (y.take 148).length := by rw [List.length_take]; omega
    have g1 : (y.take 148)[i] = y[i] := List.getElem_take
    rw [e1, List.drop_set_of_lt (by omega), sum_set1 _ i v h1, g1]
    omega
  · have e1 : (y.set i v).take 148 = y.take 148 := by rw [List.take_set, List.set_eq_of_length_le (by rw [List.length_take]; omega)]
    have e2 : (y.set i v).drop 156 = (y.drop 156).set (i - 156) v := by rw [List.drop_set, if_neg (by omega)]
    have h2 : i - 156 < (y.drop 156).length := by rw [List.length_drop]; omega
    have g2 : (y.drop 156)[i - 156] = y[i] := by
      rw [List.getElem_drop]
      congr 1
      omega
    rw [e1, e2, sum_set1 _ (i - 156) v h2, g2]
    omega
theorem set_told (y : List Int) (hy : y.length = 512) (i : Nat) (hi : i < 148 ∨ 156 ≤ i) (v : Int) : toldF (y.set i v) = toldF y := by
  unfold toldF
  rw [List.length_set, hy]
  simp only [if_true]
  congr 1
  rcases hi with hi | hi
  · rw [List.take_set, List.drop_set_of_lt (by omega)]
  · rw [List.take_set, List.set_eq_of_length_le (by rw [List.length_take]; omega)]
/-- The last test: with another byte it is not right. -/
theorem right_set (x : List Int) (hx : Low x) (i : Nat) (hi : i < 148 ∨ 156 ≤ i) (h5 : i < 512) (v : Int) (hv : 0 ≤ v ∧ v < 128) :
    rightF ((sealF x).set i v) = decide (v = (sealF x)[i]'(by rw [sealF_length]; exact h5)) := by
  have hl := sealF_length x
  have hlow := seal_low x hx
  unfold rightF
  rw [set_told _ hl i hi, told_seal x hx.bytes, sS_low _ 0 (hlow.set i v hv), set_sU _ hl i hi h5, sU_seal]
  rw [Bool.true_and, Bool.or_self]
  by_cases h : v = (sealF x)[i]'(by rw [hl]; exact h5)
  · rw [decide_eq_true h]; exact decide_eq_true (by omega)
  · rw [decide_eq_false h]; exact decide_eq_false (by omega)
theorem lastTest (x : List Int) (hx : Low x) (p : Nat) (hp : p < 148 ∨ 156 ≤ p) (h5 : p < 512) (v : Int) (hv : 0 ≤ v ∧ v < 128) :
    Ev (fun k => (mudlarklaw05_known.f k).bind fun t270 => (if t270 = true then ((sum_Right.f k ((sealF x).set ((p : Int) : Int).toNat v)).bind fun t271 => (some (t271 == (v == (rd (sealF x) (p : Int)))))) else (some false))) true := by
  have hyl := sealF_length x
  refine Ev.bind known_eq ?_
  simp only [if_true]
  rw [rd_at _ p (by omega), Int.toNat_natCast]
  have h := Right_eq ((sealF x).set p v) ((seal_low x hx).set p v hv).bytes (by rw [List.length_set]; omega)
  rw [right_set x hx p hp h5 v hv] at h
  refine Ev.bind h ?_
  have e : (decide (v = (sealF x)[p]'(by omega)) == (v == (sealF x)[p]'(by omega))) = true := by
    by_cases hh : v = (sealF x)[p]'(by omega)
    · rw [decide_eq_true hh, beq_iff_eq.2 hh]; rfl
    · rw [decide_eq_false hh, beq_eq_false_iff_ne.2 hh]; rfl
  rw [e]
  exact Ev.now _
theorem sealedTail (x : List Int) (hx : Low x) (x2 x3 i v : Int) (hi : Int.tmod (wrap64 (x2)) 504 = i) (hv : Int.tmod x3 128 = v) (i0 : 0 ≤ i) (i5 : i < 504) (v0 : 0 ≤ v ∧ v < 128) :
    Ev (fun k => ((sum_Seal.f x).bind fun t258 => ((sum_Told.f t258).bind fun bt261 => (if (t258.length : Int) = 512 then (if bt261.2 = true then ((sum_Unsigned.f k t258).bind fun t263 => (if bt261.1 = t263 then ((sum_Right.f k t258).bind fun t264 => (if t264 = true then ((sum_Seal.f t258).bind fun t265 => (if (strOfNums t265).toList = (strOfNums t258).toList then (if (Int.tmod (wrap64 (x2)) 504) ≥ 148 then (if 0 ≤ (wrap64 ((Int.tmod (wrap64 (x2)) 504) + 8)) then (if (wrap64 ((Int.tmod (wrap64 (x2)) 504) + 8)) < (t258.length : Int) then ((mudlarklaw05_known.f k).bind fun t270 => (if t270 = true then ((sum_Right.f k (t258.set ((wrap64 ((Int.tmod (wrap64 (x2)) 504) + 8)) : Int).toNat (Int.tmod x3 128))).bind fun t271 => (some (t271 == ((Int.tmod x3 128) == (rd t258 (wrap64 ((Int.tmod (wrap64 (x2)) 504) + 8))))))) else (some false))) else (none)) else (none)) else (if 0 ≤ (Int.tmod (wrap64 (x2)) 504) then (if (Int.tmod (wrap64 (x2)) 504) < (t258.length : Int) then ((mudlarklaw05_known.f k).bind fun t274 => (if t274 = true then ((sum_Right.f k (t258.set ((Int.tmod (wrap64 (x2)) 504) : Int).toNat (Int.tmod x3 128))).bind fun t275 => (some (t275 == ((Int.tmod x3 128) == (rd t258 (Int.tmod (wrap64 (x2)) 504)))))) else (some false))) else (none)) else (none))) else (some false))) else (some false))) else (some false))) else (some false)) else (some false))))) true := by
  simp only [hi, hv]
  have hyl := sealF_length x
  have hyb := sealF_bytes x hx.bytes
  rw [Seal_eq x hx.bytes]
  simp only [Option.bind_some]
  rw [Told_eq _ hyb]
  simp only [Option.bind_some]
  rw [told_seal x hx.bytes]
  have c0 : ((sealF x).length : Int) = 512 := by rw [hyl]; rfl
  simp only [if_pos c0, if_true]
  refine Ev.bind (Unsigned_eq _ hyb (by omega)) ?_
  rw [sU_seal]
  simp only [if_true]
  refine Ev.bind (Right_eq _ hyb (by omega)) ?_
  rw [right_seal x hx.bytes]
  simp only [if_true]
  rw [Seal_eq _ hyb]
  simp only [Option.bind_some]
  rw [seal_seal]
  simp only [if_true]
  by_cases h : i ≥ 148
  · have e8 : wrap64 (i + 8) = i + 8 := wrap64_id _ (by omega) (by omega)
    obtain ⟨p, hp⟩ := Int.eq_ofNat_of_zero_le (show 0 ≤ i + 8 by omega)
    rw [hp] at e8
    have q1 : (0 : Int) ≤ (p : Int) := by omega
    have q2 : (p : Int) < ((sealF x).length : Int) := by omega
    simp only [if_pos h, hp, e8, if_pos q1, if_pos q2]
    exact lastTest x hx p (by omega) (by omega) v v0
  · obtain ⟨p, rfl⟩ := Int.eq_ofNat_of_zero_le i0
    have q2 : (p : Int) < ((sealF x).length : Int) := by omega
    simp only [if_neg h, if_pos i0, if_pos q2]
    exact lastTest x hx p (by omega) (by omega) v v0
theorem sealedLoop (x2 x3 i v : Int) (hi : Int.tmod (wrap64 (x2)) 504 = i) (hv : Int.tmod x3 128 = v) (i0 : 0 ≤ i) (i5 : i < 504) (v0 : 0 ≤ v ∧ v < 128) :
    ∀ (d j : Nat) (x : List Int), 512 - j = d → j ≤ 512 → x.length = 512 → Bytes x → (∀ (q : Nat) (h : q < x.length), q < j → x[q] < 128) → Ev (fun k => mudlarklaw05_SumSealed.l0 k x2 x3 x (j : Int)) true
  | 0, j, x, hd, hj, hx, hb, hl => by
    have hlow : Low x := fun c hc => by
      obtain ⟨q, hq, rfl⟩ := List.getElem_of_mem hc
      exact ⟨(hb _ (List.getElem_mem _)).1, hl q hq (by omega)⟩
    refine Ev.step (fun k => ?_) (sealedTail x hlow x2 x3 i v hi hv i0 i5 v0)
    simp only [mudlarklaw05_SumSealed.l0]
    rw [if_neg (by omega)]
  | d + 1, j, x, hd, hj, hx, hb, hl => by
    have hlt : j < x.length := by omega
    have hc := hb _ (List.getElem_mem hlt)
    have e5 : wrap64 ((j : Int) + 1) = ((j + 1 : Nat) : Int) := by rw [wrap64_id _ (by omega) (by omega)]; push_cast; rfl
    obtain ⟨m, hm⟩ : ∃ m, m = Int.tmod x[j] 128 := ⟨_, rfl⟩
    have hmb : 0 ≤ m ∧ m < 128 := by rw [hm]; exact ⟨Int.tmod_nonneg _ hc.1, Int.tmod_lt_of_pos _ (by omega)⟩
    have ih := sealedLoop x2 x3 i v hi hv i0 i5 v0 d (j + 1) (x.set j m) (by omega) (by omega) (by rw [List.length_set]; exact hx) (hb.set j m (by omega)) (fun q h hq => by
      rw [List.getElem_set]
      split
      · exact hmb.2
      · exact hl q (by rw [List.length_set] at h; exact h) (by omega))
    have c1 : (j : Int) < 512 := by omega
    have c2 : (0 : Int) ≤ (j : Int) := by omega
    have c3 : (j : Int) < (x.length : Int) := by omega
    refine Ev.step (fun k => ?_) ih
    simp only [mudlarklaw05_SumSealed.l0]
    rw [if_pos c1, if_pos c2, if_pos c3, rd_at x j hlt, ← hm, e5, Int.toNat_natCast]
theorem SumSealed : mudlarklaw05_SumSealed.Pure := by
  intro l0 a1 a2 a3 _ h0 w0 w1 w2 w3
  obtain ⟨x, hx, hx5, hxb⟩ := Block_ev l0 a1 (wf_bytes w0) h0 (wf_u8 w1)
  have r2 := wf_u16 w2
  have r3 := wf_u8 w3
  have hw : wrap64 (a2) = a2 := wrap64_id _ (by omega) (by omega)
  refine Ev.rounds (g := fun k => mudlarklaw05_SumSealed.f k l0 a1 a2 a3) ?_
  unfold mudlarklaw05_SumSealed.f
  exact Ev.bind hx (sealedLoop a2 a3 _ _ rfl rfl (by rw [hw]; exact Int.tmod_nonneg _ (by omega)) (by rw [hw]; exact Int.tmod_lt_of_pos _ (by omega)) ⟨Int.tmod_nonneg _ r3.1, Int.tmod_lt_of_pos _ (by omega)⟩ 512 0 x (by omega) (by omega) hx5 hxb (fun q h hq => by omega))
end Go.Proofs.YtmhomfhdelocjaaDoor.Pure
