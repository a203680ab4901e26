/- The chapter's own Split, Join and Clean, and the law's paths, come to the same. No conditions. -/
import Derived.Test.YtllcgkjomeegdaaDoorHPaths
import Derived.Test.YtllcgkjomeegdaaDoorPx1
import Derived.Test.YtllcgkjomeegdaaDoorPx2
namespace Go.Proofs.YtllcgkjomeegdaaDoor.P
open Go Go.RowKit Go.Shelf Go.Lib Go.Proofs.YtllcgkjomeegdaaDoorW.PrintWords Go.Proofs.YtllcgkjomeegdaaDoorW.PrintLast Go.Proofs.YtllcgkjomeegdaaDoorW.PrintMore
set_option linter.unusedVariables false
set_option linter.unusedSimpArgs false

theorem wrap64_id (x : Int) (h0 : -9223372036854775808 ≤ x) (h1 : x ≤ 9223372036854775807) : wrap64 x = x := by
  unfold wrap64
  omega
theorem next_i (i : Nat) (h : i < 9223372036854775807) : wrap64 ((i : Int) + 1) = ((i + 1 : Nat) : Int) := by rw [wrap64_id _ (by omega) (by omega)]; push_cast; rfl
theorem known_all : mudlarklaw02_known.f = some true := by decide +kernel
theorem bt_at (s : ByteArray) (i : Nat) (h : i < s.data.toList.length) : bt s (i : Int) = ((s.data.toList[i]).toNat : Int) := by
  have h2 : i < s.size := by rw [Lib.size_eq]; exact h
  simp only [bt]
  rw [Int.toNat_natCast, dif_pos h2]
  rfl
theorem extract_list (s : ByteArray) (a b : Nat) : (s.extract a b).data.toList = (s.data.toList.take b).drop a := by
  rw [ByteArray.data_extract, Array.toList_extract]
  simp [List.extract_eq_take_drop, List.drop_take]
theorem extract_txt (s : ByteArray) (a b : Nat) : s.extract a b = txt ((s.data.toList.take b).drop a) := by
  rw [← extract_list, txt_data]
theorem rdOf_at (l : List ByteArray) (i : Nat) (h : i < l.length) : rdOf ByteArray.empty l (i : Int) = l[i] := by simp [rdOf, h]

/-! ### Split -/
theorem piece_snoc (B : List UInt8) (a i : Nat) (h : i < B.length) (ha : a ≤ i) : (B.take (i + 1)).drop a = (B.take i).drop a ++ [B[i]] := by
  rw [List.take_succ_eq_append_getElem h, List.drop_append_of_le_length (by rw [List.length_take]; omega)]
theorem piece_len (B : List UInt8) (a i : Nat) (h : i ≤ B.length) : ((B.take i).drop a).length = i - a := by
  rw [List.length_drop, List.length_take]; omega
theorem refSplitEnd (s : ByteArray) (hs : s.size ≤ 4294967296) (out : List ByteArray) (a i : Nat) (hai : a ≤ i) (hi : i ≤ s.size) (ho : out.length ≤ a) (rest : List ByteArray)
    (h : ∀ out2 : List ByteArray, out2.length ≤ i + 1 → out2 = out ++ nm ((s.data.toList.take i).drop a) → Ev (fun k => mudlarkref02_Split.l0 k s out2 ((i + 1 : Nat) : Int) ((i + 1 : Nat) : Int)) (out2 ++ rest))  :
    Ev (fun k => mudlarkref02_Split.j1 k s out (a : Int) (i : Int) false) (out ++ nm ((s.data.toList.take i).drop a) ++ rest) := by
  have hsz := Lib.size_eq s
  have en := next_i i (by omega)
  have hp := piece_len s.data.toList a i (by omega)
  have hx := extract_txt s a i
  have hl : (s.extract a i).toList = (s.data.toList.take i).drop a := by rw [Lib.toList_data, extract_list]
  by_cases h1 : (i : Int) > (a : Int)
  · have c1 : (0 : Int) ≤ (a : Int) := by omega
    have c2 : (a : Int) ≤ (i : Int) := by omega
    have c3 : (i : Int) ≤ (s.size : Int) := by omega
    have hne : (s.data.toList.take i).drop a ≠ [] := fun e => by rw [e] at hp; simp at hp; omega
    by_cases h2 : (s.data.toList.take i).drop a = [46]
    · have hn : nm ((s.data.toList.take i).drop a) = [] := by rw [h2]; rfl
      have := h out (by omega) (by rw [hn, List.append_nil])
      rw [hn, List.append_nil]
      refine Ev.step (fun k => ?_) this
      simp only [mudlarkref02_Split.j1]
      rw [if_neg (by simp), if_pos h1, if_pos c1, if_pos c2, if_pos c3, Int.toNat_natCast, Int.toNat_natCast, if_pos (hl.trans h2), en]
    · have hn : nm ((s.data.toList.take i).drop a) = [s.extract a i] := by
        unfold nm isName
        rw [hx, beq_eq_false_iff_ne.2 hne, beq_eq_false_iff_ne.2 h2]
        rfl
      have := h (out ++ [s.extract a i]) (by rw [List.length_append]; simp only [List.length_cons, List.length_nil]; omega) (by rw [hn])
      rw [hn]
      refine Ev.step (fun k => ?_) this
      simp only [mudlarkref02_Split.j1]
      rw [if_neg (by simp), if_pos h1, if_pos c1, if_pos c2, if_pos c3, Int.toNat_natCast, Int.toNat_natCast, if_neg (fun e => h2 (hl.symm.trans e)), if_pos (by omega), en]
  · obtain rfl : a = i := by omega
    have he : (s.data.toList.take a).drop a = [] := List.eq_nil_of_length_eq_zero (by rw [hp]; omega)
    have hn : nm ((s.data.toList.take a).drop a) = [] := by rw [he]; rfl
    have := h out (by omega) (by rw [hn, List.append_nil])
    rw [hn, List.append_nil]
    refine Ev.step (fun k => ?_) this
    simp only [mudlarkref02_Split.j1]
    rw [if_neg (by simp), if_neg h1, en]
theorem refSplit (s : ByteArray) (hs : s.size ≤ 4294967296) : ∀ (d i a : Nat) (out : List ByteArray), s.size - i = d → a ≤ i → i ≤ s.size → out.length ≤ a →
    Ev (fun k => mudlarkref02_Split.l0 k s out (a : Int) (i : Int)) (out ++ pieces ((s.data.toList.take i).drop a) (s.data.toList.drop i))
  | 0, i, a, out, hd, ha, hi, ho => by
    have hsz := Lib.size_eq s
    obtain rfl : i = s.size := by omega
    have he : s.data.toList.drop s.size = [] := List.drop_eq_nil_of_le (by omega)
    rw [he]
    have hj := refSplitEnd s hs out a s.size ha (Nat.le_refl _) ho [] (fun out2 h2 _ => by
      rw [List.append_nil]
      refine Ev.step (fun k => ?_) (Ev.now out2)
      simp only [mudlarkref02_Split.l0]
      rw [if_neg (by omega)])
    rw [List.append_nil] at hj
    refine Ev.step (fun k => ?_) hj
    simp only [mudlarkref02_Split.l0]
    rw [if_pos (by omega), if_neg (by omega)]
  | d + 1, i, a, out, hd, ha, hi, ho => by
    have hsz := Lib.size_eq s
    have hlt : i < s.data.toList.length := by omega
    have ed : s.data.toList.drop i = s.data.toList[i] :: s.data.toList.drop (i + 1) := List.drop_eq_getElem_cons hlt
    have hb := bt_at s i hlt
    have c1 : (i : Int) ≤ (s.size : Int) := by omega
    have c2 : (i : Int) < (s.size : Int) := by omega
    have c3 : (0 : Int) ≤ (i : Int) := by omega
    rw [ed]
    simp only [pieces]
    by_cases hc : s.data.toList[i] = 47
    · rw [if_pos hc]
      have hz : (bt s (i : Int) != 47) = false := by rw [hb, hc]; rfl
      have hj := refSplitEnd s hs out a i ha hi ho (pieces [] (s.data.toList.drop (i + 1))) (fun out2 h2 _ => by
        have ih := refSplit s hs d (i + 1) (i + 1) out2 (by omega) (Nat.le_refl _) (by omega) (by omega)
        have he : (s.data.toList.take (i + 1)).drop (i + 1) = [] := List.drop_eq_nil_of_le (by rw [List.length_take]; omega)
        rw [he] at ih
        exact ih)
      rw [List.append_assoc] at hj
      refine Ev.step (fun k => ?_) hj
      simp only [mudlarkref02_Split.l0]
      rw [if_pos c1, if_pos c2, if_pos c3, hz]
    · rw [if_neg hc]
      have hz : (bt s (i : Int) != 47) = true := by
        rw [hb, bne_iff_ne]
        intro e
        have : (s.data.toList[i]).toNat = 47 := by omega
        exact hc (UInt8.toNat_inj.1 this)
      have ih := refSplit s hs d (i + 1) a out (by omega) (by omega) (by omega) ho
      rw [piece_snoc _ a i hlt ha] at ih
      have hj : Ev (fun k => mudlarkref02_Split.j1 k s out (a : Int) (i : Int) true) (out ++ pieces ((s.data.toList.take i).drop a ++ [s.data.toList[i]]) (s.data.toList.drop (i + 1))) := by
        refine Ev.step (fun k => ?_) ih
        simp only [mudlarkref02_Split.j1, if_true]
        rw [next_i i (by omega)]
      refine Ev.step (fun k => ?_) hj
      simp only [mudlarkref02_Split.l0]
      rw [if_pos c1, if_pos c2, if_pos c3, hz]
theorem RefSplit_eq (s : ByteArray) (hs : s.size ≤ 4294967296) : Ev (fun k => mudlarkref02_Split.f k s) (splitL s.data.toList) := by
  have h := refSplit s hs s.size 0 0 [] (by omega) (Nat.le_refl _) (Nat.zero_le _) (Nat.le_refl _)
  rw [List.take_zero, List.drop_nil, List.drop_zero, List.nil_append, ← split_all] at h
  exact h

/-! ### Join -/
theorem app_txt (a : ByteArray) (l m : List UInt8) : txt l ++ txt m = txt (l ++ m) := by
  unfold txt
  rw [ByteArray.mk_append_mk]
theorem refJoin (l : List ByteArray) : ∀ (d i : Nat) (acc : List UInt8), l.length - i = d → 1 ≤ i → i ≤ l.length → l.length ≤ 4294967296 → acc.length + sumL (l.drop i) ≤ 9223372036854775807 →
    Ev (fun k => mudlarkref02_Join.l0 k l (txt acc) (i : Int)) (txt (acc ++ Lib.joinTail [47] ((l.drop i).map (·.data.toList))))
  | 0, i, acc, hd, h1, hi, hl, hb => by
    obtain rfl : i = l.length := by omega
    have he : l.drop l.length = [] := List.drop_eq_nil_of_le (Nat.le_refl _)
    rw [he]
    have e : Lib.joinTail [47] (([] : List ByteArray).map (·.data.toList)) = [] := rfl
    rw [e, List.append_nil]
    refine Ev.step (fun k => ?_) (Ev.now (txt acc))
    simp only [mudlarkref02_Join.l0]
    rw [if_neg (by omega)]
  | d + 1, i, acc, hd, h1, hi, hl, hb => by
    have hlt : i < l.length := by omega
    have ed : l.drop i = l[i] :: l.drop (i + 1) := List.drop_eq_getElem_cons hlt
    rw [ed] at hb ⊢
    simp only [sumL] at hb
    have hsz := Lib.size_eq l[i]
    have ih := refJoin l d (i + 1) (acc ++ [47] ++ l[i].data.toList) (by omega) (by omega) (by omega) hl (by rw [List.length_append, List.length_append]; simp only [List.length_cons, List.length_nil]; omega)
    rw [joinTail_cons]
    have e1 : acc ++ 47 :: (l[i].data.toList ++ Lib.joinTail [47] ((l.drop (i + 1)).map (·.data.toList))) = acc ++ [47] ++ l[i].data.toList ++ Lib.joinTail [47] ((l.drop (i + 1)).map (·.data.toList)) := by simp
    rw [e1]
    have z1 : (txt acc).size = acc.length := txt_size acc
    have e47 : (⟨#[47]⟩ : ByteArray) = txt [47] := rfl
    have e2 : txt acc ++ (⟨#[47]⟩ : ByteArray) ++ l[i] = txt (acc ++ [47] ++ l[i].data.toList) := by
      rw [e47, app_txt (txt acc)]
      conv => lhs; rhs; rw [← txt_data l[i]]
      rw [app_txt (txt acc)]
    have z2 : (txt acc ++ (⟨#[47]⟩ : ByteArray)).size = acc.length + 1 := by rw [e47, app_txt (txt acc), txt_size]; simp
    have c1 : (i : Int) < (l.length : Int) := by omega
    have c2 : (i : Int) > 0 := by omega
    have c3 : (0 : Int) ≤ (i : Int) := by omega
    refine Ev.step (fun k => ?_) ih
    simp only [mudlarkref02_Join.l0]
    rw [if_pos c1, if_pos c2, if_pos (by omega), if_pos c3, rdOf_at l i hlt, if_pos (by omega), next_i i (by omega), e2]
theorem RefJoin_eq (l : List ByteArray) (hl : l.length ≤ 4294967296) (hb : sumL l ≤ 9223372036854775807) : Ev (fun k => mudlarkref02_Join.f k l) (txt (joinL l)) := by
  cases l with
  | nil =>
    refine Ev.step (f := fun _ => some (txt [])) (fun k => ?_) (Ev.now _)
    unfold mudlarkref02_Join.f
    simp only [mudlarkref02_Join.l0]
    rw [if_neg (by simp)]
    rfl
  | cons x t =>
    simp only [sumL] at hb
    have hsz := Lib.size_eq x
    have ih := refJoin (x :: t) t.length 1 x.data.toList (by simp) (Nat.le_refl _) (by simp) hl (by simp; omega)
    rw [joinL_cons]
    simp only [List.drop_succ_cons, List.drop_zero] at ih
    refine Ev.step (fun k => ?_) ih
    unfold mudlarkref02_Join.f
    simp only [mudlarkref02_Join.l0]
    have e0 : (⟨#[]⟩ : ByteArray) ++ x = txt x.data.toList := by
      rw [show (⟨#[]⟩ : ByteArray) = txt [] from rfl]
      conv => lhs; rhs; rw [← txt_data x]
      rw [app_txt x]; rfl
    have z0 : (⟨#[]⟩ : ByteArray).size = 0 := rfl
    have er : rdOf ByteArray.empty (x :: t) 0 = x := rfl
    rw [if_pos (by simp only [List.length_cons]; omega), if_neg (by omega), if_pos (by omega), er, if_pos (by omega), e0]
    rw [show wrap64 (0 + 1) = ((1 : Nat) : Int) from by unfold wrap64; rfl]

/-! ### Clean -/
theorem upB_get (l : List ByteArray) (i : Nat) (h : i < l.length) : upB (l.drop i) = ((l[i].toList == [46, 46]) || upB (l.drop (i + 1))) := by
  rw [List.drop_eq_getElem_cons h]
  rfl
theorem refClean (l : List ByteArray) (hl : l.length ≤ 4294967296) (hb : sumL l ≤ 9223372036854775807) : ∀ (d i : Nat), l.length - i = d → i ≤ l.length →
    Ev (fun k => mudlarkref02_Clean.l0 k l (i : Int)) (if upB (l.drop i) = true then (ByteArray.empty, false) else (txt (joinL l), true))
  | 0, i, hd, hi => by
    obtain rfl : i = l.length := by omega
    have he : l.drop l.length = [] := List.drop_eq_nil_of_le (Nat.le_refl _)
    rw [he]
    refine Ev.step (f := fun k => (mudlarkref02_Join.f k l).bind fun t121 => (some (t121, true))) (fun k => ?_) (Ev.bind (RefJoin_eq l hl hb) (Ev.now _))
    simp only [mudlarkref02_Clean.l0]
    rw [if_neg (by omega)]
  | d + 1, i, hd, hi => by
    have hlt : i < l.length := by omega
    have c1 : (i : Int) < (l.length : Int) := by omega
    have c2 : (0 : Int) ≤ (i : Int) := by omega
    rw [upB_get l i hlt]
    by_cases h : l[i].toList = [46, 46]
    · have hh : (l[i].toList == [46, 46]) = true := beq_iff_eq.2 h
      rw [hh, Bool.true_or, if_pos rfl]
      refine Ev.step (f := fun _ => some (ByteArray.empty, false)) (fun k => ?_) (Ev.now _)
      simp only [mudlarkref02_Clean.l0]
      rw [if_pos c1, if_pos c2, rdOf_at l i hlt, if_pos h]
      rfl
    · have hh : (l[i].toList == [46, 46]) = false := beq_eq_false_iff_ne.2 h
      rw [hh, Bool.false_or]
      have ih := refClean l hl hb d (i + 1) (by omega) (by omega)
      refine Ev.step (fun k => ?_) ih
      simp only [mudlarkref02_Clean.l0]
      rw [if_pos c1, if_pos c2, rdOf_at l i hlt, if_neg h, next_i i (by omega)]
theorem split_bounds (s : ByteArray) (hs : s.size ≤ 4294967296) : (splitL s.data.toList).length ≤ 4294967296 ∧ sumL (splitL s.data.toList) ≤ 9223372036854775807 := by
  have h1 := splitL_length _ s.data.toList (Nat.le_refl _)
  have h2 := splitL_sum _ s.data.toList (Nat.le_refl _)
  have hz := Lib.size_eq s
  exact ⟨by omega, by omega⟩
theorem RefClean_eq (s : ByteArray) (hs : s.size ≤ 4294967296) : Ev (fun k => mudlarkref02_Clean.f k s) (cleanF s) := by
  have hz := Lib.size_eq s
  obtain ⟨b1, b2⟩ := split_bounds s hs
  have hno : Ev (fun k => mudlarkref02_Clean.j0 k s false) (if upB (splitL s.data.toList) = true then (ByteArray.empty, false) else (txt (joinL (splitL s.data.toList)), true)) := by
    refine Ev.step (f := fun k => (mudlarkref02_Split.f k s).bind fun t117 => (mudlarkref02_Clean.l0 k t117 0)) (fun k => ?_) (Ev.bind (RefSplit_eq s hs) (refClean _ b1 b2 _ 0 rfl (Nat.zero_le _)))
    simp only [mudlarkref02_Clean.j0]
    rw [if_neg (by simp)]
  unfold cleanF
  cases e : s.data.toList with
  | nil =>
    rw [e] at hno hz
    rw [if_neg (by decide)]
    refine Ev.congr (fun k => ?_) hno
    unfold mudlarkref02_Clean.f
    rw [if_neg (by rw [List.length_nil] at hz; omega)]
  | cons c t =>
    rw [e] at hz
    simp only [List.length_cons] at hz
    have hb : bt s 0 = (c.toNat : Int) := by
      have := bt_at s 0 (by rw [e]; simp)
      simpa [e] using this
    by_cases hc : c = 47
    · subst hc
      have hp : Lib.hasPrefix (47 :: t) [47] = true := by simp [Lib.hasPrefix, List.isPrefixOf]
      rw [if_pos hp]
      have hyes : Ev (fun k => mudlarkref02_Clean.j0 k s true) (ByteArray.empty, false) := by
        refine Ev.step (f := fun _ => some (ByteArray.empty, false)) (fun k => ?_) (Ev.now _)
        simp only [mudlarkref02_Clean.j0, if_true]
        rfl
      refine Ev.congr (fun k => ?_) hyes
      unfold mudlarkref02_Clean.f
      rw [if_pos (by omega), if_pos (by omega), hb]
      rfl
    · rw [pre_head c t hc, if_neg (by simp)]
      rw [e] at hno
      refine Ev.congr (fun k => ?_) hno
      unfold mudlarkref02_Clean.f
      rw [if_pos (by omega), if_pos (by omega), hb]
      have : ((c.toNat : Int) == 47) = false := by
        rw [beq_eq_false_iff_ne]
        intro h
        have : c.toNat = 47 := by omega
        exact hc (UInt8.toNat_inj.1 this)
      rw [this]
theorem Clean_eq (s : ByteArray) (hs : s.size ≤ 4294967296) : str_Clean.f s = some (cleanF s) := by unfold str_Clean.f; rw [if_pos hs]
theorem Split_eq (s : ByteArray) (hs : s.size ≤ 4294967296) : str_Split.f s = some (splitL s.data.toList) := by unfold str_Split.f; rw [if_pos hs]
theorem paths_eq (s : ByteArray) (hs : s.size ≤ 4294967296) : Ev (fun k => mudlarklaw02_paths.f k s) true := by
  obtain ⟨b1, b2⟩ := split_bounds s hs
  unfold mudlarklaw02_paths.f
  rw [Clean_eq s hs]
  simp only [Option.bind_some]
  refine Ev.bind (RefClean_eq s hs) ?_
  rw [Split_eq s hs]
  simp only [Option.bind_some]
  refine Ev.bind (RefSplit_eq s hs) ?_
  simp only [if_true, beq_self_eq_true]
  refine Ev.bind (RefJoin_eq _ b1 b2) (Ev.bind (RefJoin_eq _ b1 b2) ?_)
  simp only [beq_self_eq_true]
  exact Ev.now true

/-! ### Path -/
def parts10 : List ByteArray := [⟨#[97]⟩, ⟨#[98]⟩, ⟨#[47]⟩, ⟨#[47]⟩, ⟨#[46]⟩, ⟨#[46, 46]⟩, ⟨#[100, 105, 114]⟩, ⟨#[47, 120]⟩, ⟨#[195, 169]⟩, ⟨#[10]⟩]
theorem parts10_size : ∀ x ∈ parts10, x.size ≤ 3 := by decide +kernel
theorem pathLoop (l : List Int) (hb : Bytes l) (hl : l.length ≤ 140737488351232) : ∀ (d i : Nat) (p : ByteArray), 12 - i = d → i ≤ 12 → p.size ≤ 3 * i → ∃ q, Ev (fun k => mudlarklaw02_Path.l0 k l p (i : Int)) q ∧ q.size ≤ 36
  | 0, i, p, hd, hi, hp => by
    refine ⟨p, Ev.step (f := fun _ => some p) (fun k => ?_) (Ev.now _), by omega⟩
    simp only [mudlarklaw02_Path.l0]
    by_cases h : (i : Int) < (l.length : Int)
    · rw [if_pos h, if_neg (by omega)]
    · rw [if_neg h]
  | d + 1, i, p, hd, hi, hp => by
    by_cases h : i < l.length
    · have hc := hb _ (List.getElem_mem h)
      have hrd : rd l (i : Int) = l[i] := by simp [rd, h]
      obtain ⟨m, hm⟩ : ∃ m, m = Int.tmod l[i] 10 := ⟨_, rfl⟩
      have m0 : 0 ≤ m := by rw [hm]; exact Int.tmod_nonneg _ hc.1
      have m1 : m < 10 := by rw [hm]; exact Int.tmod_lt_of_pos _ (by omega)
      obtain ⟨j, rfl⟩ := Int.eq_ofNat_of_zero_le m0
      have hj : j < parts10.length := by show j < 10; omega
      have hs := parts10_size _ (List.getElem_mem hj)
      obtain ⟨q, hq, hq2⟩ := pathLoop l hb hl d (i + 1) (p ++ parts10[j]) (by omega) (by omega) (by rw [ByteArray.size_append]; omega)
      refine ⟨q, Ev.step (fun k => ?_) hq, hq2⟩
      have c1 : (i : Int) < (l.length : Int) := by omega
      have c2 : (i : Int) < 12 := by omega
      have c3 : (0 : Int) ≤ (i : Int) := by omega
      have c4 : (j : Int) < (parts10.length : Int) := by omega
      simp only [mudlarklaw02_Path.l0]
      rw [if_pos c1, if_pos c2, Option.bind_some, if_pos c3, hrd, ← hm, if_pos m0]
      show (if (j : Int) < (parts10.length : Int) then (if p.size + (rdOf ByteArray.empty parts10 (j : Int)).size ≤ 9223372036854775807 then (mudlarklaw02_Path.l0 k l (p ++ rdOf ByteArray.empty parts10 (j : Int)) (wrap64 ((i : Int) + 1))) else none) else none) = _
      rw [if_pos c4, rdOf_at parts10 j hj, if_pos (by omega), next_i i (by omega)]
    · refine ⟨p, Ev.step (f := fun _ => some p) (fun k => ?_) (Ev.now _), by omega⟩
      simp only [mudlarklaw02_Path.l0]
      rw [if_neg (by omega)]
theorem wf_u8 {x : Int} (h : (Lit.int .u8 x).wf = true) : 0 ≤ x ∧ x < 256 := by
  simp [Lit.wf, IntKind.min, IntKind.max, IntKind.signed, IntKind.bits] at h
  omega
theorem wf_bytes {l : List Int} (h : ∀ x ∈ l, (Lit.int .u8 x).wf = true) : Bytes l := fun x hx => wf_u8 (h x hx)
theorem Path_ev (l : List Int) (hb : Bytes l) (hl : l.length ≤ 140737488351232) : ∃ q, Ev (fun k => mudlarklaw02_Path.f k l) q ∧ q.size ≤ 36 := pathLoop l hb hl 12 0 _ rfl (Nat.zero_le _) (by decide)
end Go.Proofs.YtllcgkjomeegdaaDoor.P
