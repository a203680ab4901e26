/- The pure statement of StrCuts: Cut and Put of any are what the chapter says. No conditions. -/
import Derived.Test.YtllcgkjomeegdaaDoorHPathRef
import Derived.Test.YtllcgkjomeegdaaDoorPx6
namespace Go.Proofs.YtllcgkjomeegdaaDoor.Pure
open Go Go.RowKit Go.Lib Go.Proofs.YtllcgkjomeegdaaDoor.P Go.Proofs.YtllcgkjomeegdaaDoorW.PrintWords Go.Proofs.YtllcgkjomeegdaaDoorW.PrintLast

theorem rd_at (l : List Int) (i : Nat) (h : i < l.length) : rd l (i : Int) = l[i] := by simp [rd, h]
theorem refCut (l : List Int) (hl : l.length ≤ 4294967296) : ∀ (d i : Nat), l.length - i = d → i ≤ l.length → Ev (fun k => mudlarkref02_Cut.l0 k l (i : Int)) (strOfNums (l.take i ++ cutF (l.drop i)))
  | 0, i, hd, hi => by
    obtain rfl : i = l.length := by omega
    have e : l.take l.length ++ cutF (l.drop l.length) = l := by rw [List.drop_eq_nil_of_le (Nat.le_refl _), List.take_length]; simp [cutF]
    rw [e]
    refine Ev.step (f := fun _ => some (strOfNums l)) (fun k => ?_) (Ev.now _)
    simp only [mudlarkref02_Cut.l0]
    rw [if_neg (by omega)]
  | d + 1, i, hd, hi => by
    have hlt : i < l.length := by omega
    have ed : l.drop i = l[i] :: l.drop (i + 1) := List.drop_eq_getElem_cons hlt
    have c1 : (i : Int) < (l.length : Int) := by omega
    have c2 : (0 : Int) ≤ (i : Int) := by omega
    have c3 : (i : Int) ≤ (l.length : Int) := by omega
    rw [ed]
    by_cases h : l[i] = 0
    · have e : cutF (l[i] :: l.drop (i + 1)) = [] := by unfold cutF; rw [h]; rfl
      rw [e, List.append_nil]
      refine Ev.step (f := fun _ => some (strOfNums (l.take i))) (fun k => ?_) (Ev.now _)
      simp only [mudlarkref02_Cut.l0]
      rw [if_pos c1, if_pos c2, rd_at l i hlt, if_pos h, if_pos c3, Int.toNat_natCast]
    · have e : cutF (l[i] :: l.drop (i + 1)) = l[i] :: cutF (l.drop (i + 1)) := by unfold cutF; rw [List.takeWhile_cons, if_pos (by simpa using h)]
      have ih := refCut l hl d (i + 1) (by omega) (by omega)
      rw [List.take_succ_eq_append_getElem hlt, List.append_assoc] at ih
      rw [e]
      refine Ev.step (fun k => ?_) ih
      simp only [mudlarkref02_Cut.l0]
      rw [if_pos c1, if_pos c2, rd_at l i hlt, if_neg h, next_i i (by omega)]
theorem RefCut_eq (l : List Int) (hl : l.length ≤ 4294967296) : Ev (fun k => mudlarkref02_Cut.f k l) (strOfNums (cutF l)) := by
  have h := refCut l hl l.length 0 (by omega) (Nat.zero_le _)
  rwa [List.take_zero, List.nil_append, List.drop_zero] at h
theorem numsL_at (s : ByteArray) (i : Nat) (h : i < s.size) : ∃ h2 : i < (numsL s).length, (numsL s)[i] = bt s (i : Int) := by
  have hl := numsL_length s
  have hz := Lib.size_eq s
  refine ⟨by omega, ?_⟩
  rw [Go.Proofs.YtllcgkjomeegdaaDoor.P.bt_at s i (by omega)]
  simp [numsL]
theorem ix_nums (s : ByteArray) : (Lib.indexByte s.data.toList 0 ≥ 0) ↔ ∃ i, ∃ h : i < s.size, bt s (i : Int) = 0 := by
  have hz := Lib.size_eq s
  constructor
  · intro h
    obtain ⟨o, ho⟩ := Int.eq_ofNat_of_zero_le h
    have := (Lib.indexByte_some ho).1
    obtain ⟨h1, h2⟩ := List.getElem?_eq_some_iff.1 this
    exact ⟨o, by omega, by rw [Go.Proofs.YtllcgkjomeegdaaDoor.P.bt_at s o h1, h2]; rfl⟩
  · rintro ⟨i, h, hb⟩
    rcases Int.lt_or_le (Lib.indexByte s.data.toList 0) 0 with h1 | h1
    · have h2 := Lib.indexByte_ge s.data.toList 0
      have h3 : Lib.indexByte s.data.toList 0 = -1 := by omega
      have h4 := Lib.indexByte_none h3 i
      exfalso
      apply h4
      rw [Go.Proofs.YtllcgkjomeegdaaDoor.P.bt_at s i (by omega)] at hb
      rw [List.getElem?_eq_getElem (by omega)]
      congr 1
      exact UInt8.toNat_inj.1 (by simpa using hb)
    · exact h1
theorem refPut (s : ByteArray) (n : Nat) (hn : s.size ≤ n) (hs : s.size ≤ 4294967296) : ∀ (d i : Nat), s.size - i = d → i ≤ s.size → (∀ j, j < i → bt s (j : Int) ≠ 0) →
    Ev (fun k => mudlarkref02_Put.l0 k s ((numsL s).take i ++ List.replicate (n - i) 0) (i : Int)) (if ∃ j, ∃ h : j < s.size, bt s (j : Int) = 0 then ([], false) else (numsL s ++ List.replicate (n - s.size) 0, true))
  | 0, i, hd, hi, hz => by
    obtain rfl : i = s.size := by omega
    have hl := numsL_length s
    rw [if_neg (fun ⟨j, h, hb⟩ => hz j h hb)]
    rw [List.take_of_length_le (by omega)]
    refine Ev.step (f := fun _ => some (numsL s ++ List.replicate (n - s.size) 0, true)) (fun k => ?_) (Ev.now _)
    simp only [mudlarkref02_Put.l0]
    rw [if_neg (by omega)]
  | d + 1, i, hd, hi, hz => by
    have hlt : i < s.size := by omega
    have hl := numsL_length s
    obtain ⟨h2, hv⟩ := numsL_at s i hlt
    have c1 : (i : Int) < (s.size : Int) := by omega
    have c2 : (0 : Int) ≤ (i : Int) := by omega
    by_cases h : bt s (i : Int) = 0
    · rw [if_pos ⟨i, hlt, h⟩]
      refine Ev.step (f := fun _ => some ([], false)) (fun k => ?_) (Ev.now _)
      simp only [mudlarkref02_Put.l0]
      rw [if_pos c1, if_pos c2, if_pos h]
    · have ih := refPut s n hn hs d (i + 1) (by omega) (by omega) (fun j hj => by
        rcases Nat.lt_or_ge j i with h3 | h3
        · exact hz j h3
        · obtain rfl : j = i := by omega
          exact h)
      have e : ((numsL s).take i ++ List.replicate (n - i) 0).set i (bt s (i : Int)) = (numsL s).take (i + 1) ++ List.replicate (n - (i + 1)) 0 := by
        have hm : n - i = (n - (i + 1)) + 1 := by omega
        rw [hm, List.replicate_succ, List.set_append_right _ _ (by rw [List.length_take]; omega), List.length_take, Nat.min_eq_left (by omega), Nat.sub_self, List.set_cons_zero, List.take_succ_eq_append_getElem h2, hv, List.append_assoc]
        rfl
      have c3 : (i : Int) < (((numsL s).take i ++ List.replicate (n - i) 0).length : Int) := by
        rw [List.length_append, List.length_take, List.length_replicate]
        omega
      refine Ev.step (fun k => ?_) ih
      simp only [mudlarkref02_Put.l0]
      rw [if_pos c1, if_pos c2, if_neg h, if_pos c3, Int.toNat_natCast, e, next_i i (by omega)]
theorem RefPut_eq (s : ByteArray) (wide : Int) (hs : s.size ≤ 4294967296) (hw : wide ≤ 140737488351232) : Ev (fun k => mudlarkref02_Put.f k s wide) (putF s wide) := by
  unfold putF
  by_cases h : (s.size : Int) > wide
  · rw [if_pos (Or.inl h)]
    refine Ev.step (f := fun _ => some ([], false)) (fun k => ?_) (Ev.now _)
    unfold mudlarkref02_Put.f
    rw [if_pos h]
  · obtain ⟨n, rfl⟩ := Int.eq_ofNat_of_zero_le (show 0 ≤ wide by omega)
    have hp := refPut s n (by omega) hs s.size 0 (by omega) (Nat.zero_le _) (fun j hj => by omega)
    rw [List.take_zero, List.nil_append, Nat.sub_zero] at hp
    have e : (if (s.size : Int) > (n : Int) ∨ Lib.indexByte s.data.toList 0 ≥ 0 then (([] : List Int), false) else (numsL s ++ List.replicate ((n : Int).toNat - s.size) 0, true)) = (if ∃ j, ∃ h : j < s.size, bt s (j : Int) = 0 then ([], false) else (numsL s ++ List.replicate (n - s.size) 0, true)) := by
      rw [Int.toNat_natCast]
      by_cases h2 : Lib.indexByte s.data.toList 0 ≥ 0
      · rw [if_pos (Or.inr h2), if_pos ((ix_nums s).1 h2)]
      · rw [if_neg (fun hh => hh.elim h h2), if_neg (fun hh => h2 ((ix_nums s).2 hh))]
    rw [e]
    refine Ev.congr (fun k => ?_) hp
    unfold mudlarkref02_Put.f
    rw [if_neg h, if_pos (by omega), if_pos (by omega), Int.toNat_natCast]
    rfl
theorem Put_eq (s : ByteArray) (wide : Int) (hw : wide ≤ 140737488351232) : str_Put.f s wide = some (putF s wide) := by unfold str_Put.f; rw [if_pos hw]
theorem Cut_eq (l : List Int) (hb : Bytes l) (hl : l.length ≤ 300) : str_Cut.f l = some (strOfNums (cutF l)) := by unfold str_Cut.f; rw [if_pos ⟨(bytesB_iff l).2 hb, by omega⟩]
theorem StrCuts : mudlarklaw02_StrCuts.Pure := by
  intro l0 a1 a2 a3 _ h0 w0 h1 w2 w3
  refine Ev.rounds (g := fun k => mudlarklaw02_StrCuts.f k l0 a1 a2 a3) ?_
  have r3 := wf_u8 w3
  have hyes : Ev (fun k => mudlarklaw02_StrCuts.j0 k l0 a1 a2 a3 true) true := by
    refine Ev.step (f := fun _ => (mudlarklaw02_known.f).bind fun t => some t) (fun k => by simp only [mudlarklaw02_StrCuts.j0, if_true]) ?_
    rw [known_all]
    exact Ev.now true
  by_cases c1 : (l0.length : Int) > 300
  · refine Ev.congr (fun k => ?_) hyes
    unfold mudlarklaw02_StrCuts.f
    rw [if_pos c1]
  · by_cases c2 : (a1.size : Int) > 300
    · refine Ev.congr (fun k => ?_) hyes
      unfold mudlarklaw02_StrCuts.f
      rw [if_neg c1, if_pos c2]
    · by_cases c3 : a2 > 1000
      · refine Ev.congr (fun k => ?_) hyes
        unfold mudlarklaw02_StrCuts.f
        rw [if_neg c1, if_neg c2, if_pos c3]
      · obtain ⟨m, hm⟩ : ∃ m, m = wrap64 ((wrap64 ((a1.size : Int) + (wrap64 (Int.tmod a3 4)))) - 1) := ⟨_, rfl⟩
        have hmb : m ≤ 140737488351232 := by
          have h4 : 0 ≤ Int.tmod a3 4 := Int.tmod_nonneg _ r3.1
          have h5 : Int.tmod a3 4 < 4 := Int.tmod_lt_of_pos _ (by omega)
          obtain ⟨u, hu⟩ : ∃ u, u = Int.tmod a3 4 := ⟨_, rfl⟩
          rw [← hu] at h4 h5 hm
          have e1 : wrap64 u = u := wrap64_id _ (by omega) (by omega)
          have e2 : wrap64 ((a1.size : Int) + u) = (a1.size : Int) + u := wrap64_id _ (by omega) (by omega)
          rw [e1, e2, wrap64_id _ (by omega) (by omega)] at hm
          omega
        have hno : Ev (fun k => mudlarklaw02_StrCuts.j0 k l0 a1 a2 a3 false) true := by
          refine Ev.step (f := fun k => (str_Put.f a1 a2).bind fun bt218 => ((mudlarkref02_Put.f k a1 a2).bind fun bt222 => ((str_Put.f a1 m).bind fun bt226 => ((mudlarkref02_Put.f k a1 m).bind fun bt230 => ((str_Cut.f l0).bind fun t234 => ((mudlarkref02_Cut.f k l0).bind fun t235 => (if t234.toList = t235.toList then (if (strOfNums bt218.1).toList = (strOfNums bt222.1).toList then (if (bt218.2 == bt222.2) = true then (if (strOfNums bt226.1).toList = (strOfNums bt230.1).toList then (some (bt226.2 == bt230.2)) else (some false)) else (some false)) else (some false)) else (some false))))))) ) (fun k => ?_) ?_
          · simp only [mudlarklaw02_StrCuts.j0]
            rw [if_neg (by simp), ← hm]
          · rw [Put_eq a1 a2 (by omega), Put_eq a1 m hmb, Cut_eq l0 (wf_bytes w0) (by omega)]
            simp only [Option.bind_some]
            refine Ev.bind (RefPut_eq a1 a2 (by omega) (by omega)) (Ev.bind (RefPut_eq a1 m (by omega) hmb) (Ev.bind (RefCut_eq l0 (by omega)) ?_))
            simp only [if_true, beq_self_eq_true]
            exact Ev.now true
        refine Ev.congr (fun k => ?_) hno
        unfold mudlarklaw02_StrCuts.f
        rw [if_neg c1, if_neg c2, if_neg c3, known_all]
        rfl
end Go.Proofs.YtllcgkjomeegdaaDoor.Pure
