/- head.print: what it hands back of every header, or with which error it panics. Its condition: head.magic holds what its text lays. -/
import Derived.Test.YtkfcfbggojmfkaaGreatDoorHHeadF
import Derived.Test.YtkfcfbggojmfkaaGreatDoorWGuard
namespace Go.Proofs.YtkfcfbggojmfkaaGreatDoor.P
open Go Go.RowKit Go.Proofs.YtkfcfbggojmfkaaGreatDoorW.PrintWords Go.Proofs.YtkfcfbggojmfkaaGreatDoorW.PrintLast Go.Proofs.YtkfcfbggojmfkaaGreatDoorW.PrintMore
set_option linter.unusedVariables false
set_option linter.unusedSimpArgs false

theorem textsP_ok (h : S31) (at_ wd idx : Nat) (ts : List (Nat × Nat × Nat)) (b : List Int) (s : ByteArray) (fl : List Int) (hs : s = txtOf h idx) (hp : sputF s (wd : Int) = (fl, true)) : textsP h ((at_, wd, idx) :: ts) b = textsP h ts (if s.toList = [] then b else splice b at_ fl) := by
 show (if (sputF (txtOf h idx) (wd : Int)).2 = true then textsP h ts (if (txtOf h idx).toList = [] then b else splice b at_ (sputF (txtOf h idx) (wd : Int)).1) else none) = _
 rw [← hs, hp]
 exact if_pos rfl
theorem textsP_not (h : S31) (at_ wd idx : Nat) (ts : List (Nat × Nat × Nat)) (b : List Int) (s : ByteArray) (fl : List Int) (hs : s = txtOf h idx) (hp : sputF s (wd : Int) = (fl, false)) : textsP h ((at_, wd, idx) :: ts) b = none := by
 show (if (sputF (txtOf h idx) (wd : Int)).2 = true then textsP h ts (if (txtOf h idx).toList = [] then b else splice b at_ (sputF (txtOf h idx) (wd : Int)).1) else none) = _
 rw [← hs, hp]
 exact if_neg Bool.false_ne_true
theorem numsP_ok (h : S31) (at_ wd idx : Nat) (lo hi : Int) (ts : List (Nat × Nat × Nat × Int × Int)) (b : List Int) (x : Int) (f : List Int) (hx : x = numOf h idx) (hp : putF x (wd : Int) = (f, true)) (h1 : lo ≤ x) (h2 : x ≤ hi) : numsP h ((at_, wd, idx, lo, hi) :: ts) b = numsP h ts (splice b at_ f) := by
 show (if okN (numOf h idx) wd lo hi then numsP h ts (splice b at_ (putF (numOf h idx) (wd : Int)).1) else none) = _
 rw [← hx, if_pos ⟨by rw [hp], h1, h2⟩, hp]
theorem numsP_not (h : S31) (at_ wd idx : Nat) (lo hi : Int) (ts : List (Nat × Nat × Nat × Int × Int)) (b : List Int) (x : Int) (hx : x = numOf h idx) (hn : ¬ okN x wd lo hi) : numsP h ((at_, wd, idx, lo, hi) :: ts) b = none := by
 show (if okN (numOf h idx) wd lo hi then numsP h ts (splice b at_ (putF (numOf h idx) (wd : Int)).1) else none) = _
 rw [← hx, if_neg hn]
theorem partsP_ok (x : S64) (xs : List S64) (i : Nat) (b f0 f1 : List Int) (h0 : okN x.f0 12 0 4611686018427387904) (h1 : okN x.f1 12 0 4611686018427387904) (hp : putF x.f0 12 = (f0, true)) (hq : putF x.f1 12 = (f1, true)) : partsP (x :: xs) i b = partsP xs (i + 1) (splice (splice b (386 + i * 24) f0) (386 + i * 24 + 12) f1) := by
 show (if okN x.f0 12 0 4611686018427387904 then (if okN x.f1 12 0 4611686018427387904 then partsP xs (i + 1) (splice (splice b (386 + i * 24) (putF x.f0 12).1) (386 + i * 24 + 12) (putF x.f1 12).1) else none) else none) = _
 rw [if_pos h0, if_pos h1, hp, hq]
theorem partsP_not (x : S64) (xs : List S64) (i : Nat) (b : List Int) (h0 : ¬ okN x.f0 12 0 4611686018427387904 ∨ ¬ okN x.f1 12 0 4611686018427387904) : partsP (x :: xs) i b = none := by
 show (if okN x.f0 12 0 4611686018427387904 then (if okN x.f1 12 0 4611686018427387904 then partsP xs (i + 1) (splice (splice b (386 + i * 24) (putF x.f0 12).1) (386 + i * 24 + 12) (putF x.f1 12).1) else none) else none) = _
 rcases h0 with h0 | h0
 ·rw [if_neg h0]
 ·rw [if_neg h0]
  split <;> rfl
theorem okN_not {x : Int} {wd : Nat} {lo hi : Int} {f : List Int} {ok : Bool} (hp : putF x (wd : Int) = (f, ok)) (hn : ¬ okN x wd lo hi) : ok = false ∨ ok = true ∧ decide (lo ≤ x) = false ∨ ok = true ∧ decide (lo ≤ x) = true ∧ decide (x ≤ hi) = false := by
 cases ok with
 | false => exact .inl rfl
 | true =>
  by_cases h1 : lo ≤ x
  ·exact .inr (.inr ⟨rfl, decide_eq_true h1, decide_eq_false (fun h2 => hn ⟨by rw [hp], h1, h2⟩)⟩)
  ·exact .inr (.inl ⟨rfl, decide_eq_false h1⟩)
theorem Contains38_l (l : List S64) (hl : l.length ≤ 9223372036854775807) : ∀ (d i : Nat), l.length - i = d → i ≤ l.length → ∃ r : Int, Ev (fun k => api_Part_89.l0 k l (l.length : Int) (i : Int) 0 0) r ∧ decide (r ≥ 0) = (l.drop i).any zeroPart
 | 0, i, hd, hi => by
  refine ⟨-1, Ev.step (f := fun _ => some (-1)) (fun k => by simp only [api_Part_89.l0]; rw [if_neg (by omega)]) (Ev.now _), ?_⟩
  rw [List.drop_eq_nil_of_le (by omega)]
  rfl
 | d + 1, i, hd, hi => by
  have hlt : i < l.length := by omega
  have er : rd_T64 l (i : Int) = l[i] := by unfold rd_T64; simp [hlt]
  have ew : wrap64 ((i : Int) + 1) = ((i + 1 : Nat) : Int) := by unfold wrap64; omega
  rw [List.drop_eq_getElem_cons hlt, List.any_cons]
  by_cases hz : zeroPart l[i] = true
  ·refine ⟨(i : Int), Ev.step (f := fun _ => some (i : Int)) (fun k => ?_) (Ev.now _), ?_⟩
   ·simp only [api_Part_89.l0]
    rw [if_pos (by omega), if_pos (by omega), if_pos (by omega), er, if_pos]
    unfold zeroPart at hz
    simp only [Bool.and_eq_true, beq_iff_eq] at hz
    rw [hz.1, hz.2]
    rfl
   ·rw [hz, decide_eq_true (by omega)]
    rfl
  ·obtain ⟨r, hr, he⟩ := Contains38_l l hl d (i + 1) (by omega) (by omega)
   refine ⟨r, Ev.step (f := fun k => api_Part_89.l0 k l (l.length : Int) ((i + 1 : Nat) : Int) 0 0) (fun k => ?_) hr, ?_⟩
   ·simp only [api_Part_89.l0]
    rw [if_pos (by omega), if_pos (by omega), if_pos (by omega), er, if_neg, ew]
    intro h1
    apply hz
    unfold zeroPart
    simp only [Bool.and_eq_true, beq_iff_eq] at h1 ⊢
    exact ⟨h1.1.symm, h1.2.symm⟩
   ·rw [he]
    simp [hz]
theorem Contains38 (l : List S64) (hl : l.length ≤ 9223372036854775807) : Ev (fun k => api_Part_66.f k l 0 0) (l.any zeroPart) := by
 obtain ⟨r, hr, he⟩ := Contains38_l l hl l.length 0 (by omega) (by omega)
 rw [List.drop_zero] at he
 rw [← he]
 exact Ev.bind (g := fun k => api_Part_89.f k l 0 0) (f := fun _ t => some (decide (t ≥ 0))) hr (Ev.now _)
theorem copy_str_eq (b : List Int) (o : Nat) (s : ByteArray) : ((u8c b).toArray.toList.take o ++ Lib.byteCells s.data.toList ++ (u8c b).toArray.toList.drop (o + s.size)).toArray = (u8c (splice b o (numsL s))).toArray := by
 rw [byteCells_nums, ← u8c_splice]
 unfold splice
 rw [u8c_length, numsL_length, List.append_assoc]
 rfl
theorem seal_own (l : List Int) (hl : Blk l) (bb : Nat) (W : World) (hbk : W.heap[bb]? = some (.cells (u8c l).toArray 5 (0, 0))) :
  Calls Tryz.prog 68 #[.slice (some ⟨bb, 0, none⟩) 512 512] W fun e w' => ∃ v, e = .returned v ∧ Kd.R (Kd.int .u8) 97 w' W.heap.size (fun _ => True) v (sealF l) ∧ Below W.heap.size W w' := by
 have hR := row_R (base := 0) l hbk (Nat.zero_le _) (by rw [hl.len]; decide)
 have hC := (Kd.R_reads' hR).2.2
 have h := sum_Seal.calls (some ⟨bb, 0, none⟩) 512 l (sealF l) W hC (by rw [hl.len]; exact Nat.le_refl _) (by unfold sum_Seal.f; rw [if_pos ((bytesB_iff l).2 hl.bytes)])
 rw [hl.len] at h
 exact h
theorem pr_ok {h : S31} {w W w' : World} {l : List Int} {v : Value} (he : printO h = .ok l) (hb : Below w.heap.size w W) (hR : Kd.R (Kd.int .u8) 97 w' W.heap.size (fun _ => True) v l) (hb2 : Below W.heap.size W w') : PrintPost h w (.returned v) w' := by
 unfold PrintPost
 rw [he]
 exact ⟨below_step hb hb2, v, rfl, Kd.R_lower hR hb.size⟩
set_option maxRecDepth 100000 in
set_option maxHeartbeats 16000000 in
theorem head_print_calls (h : S31) (A14 : Option Addr) (c14 : Nat) (w : World) (hp : Kd.C k64 w A14 h.f14.length h.f14) (hc : h.f14.length ≤ c14) (HT_ : Tabs w) :
  Calls Tryz.prog 32 #[.agg (cells25 h (.slice A14 h.f14.length c14))] w (PrintPost h w) := by
 have HP := Aside0.mk hp
 have HC := Aside0.mk hc
 have HT := Aside0.mk HT_
 obtain ⟨cs, hcs⟩ : ∃ cs, cs = cells25 h (.slice A14 h.f14.length c14) := ⟨_, rfl⟩
 have c6_ : cs[6]? = some (.int .u8 h.f6) := by rw [hcs]; rfl
 have c8_ : cs[8]? = some (.int .i64 h.f8) := by rw [hcs]; rfl
 have HCS := Aside0.mk hcs
 have HSZ := Aside0.mk (show cs.size = 17 by rw [hcs]; rfl)
 have HONE := Aside0.mk (show cs.all (·.oneCell') = true by rw [hcs]; simp [cells25, Value.oneCell'])
 rw [← hcs]
 clear hp hc HT_ hcs
 go_enter Tryz.func32, Tryz.ntmps32
 go_upto_region 1 with (fail)
 have hgh := row2_alloc w cs 31
 have hb0 := below_alloc (Below.refl w.heap.size w) (.cells cs 31)
 generalize w.alloc (.cells cs 31) = wh at hgh hb0 ⊢
 obtain ⟨gh, hghe⟩ : ∃ n, n = w.heap.size := ⟨_, rfl⟩
 rw [← hghe] at hgh ⊢
 have HGE := Aside0.mk (show w.heap.size ≤ gh from Nat.le_of_eq hghe.symm)
 have hc6 : wh.cell? ⟨gh, 6, none⟩ = some (.int .u8 h.f6) := (blk_cell hgh 6).trans c6_
 have hc8 : wh.cell? ⟨gh, 8, none⟩ = some (.int .i64 h.f8) := (blk_cell hgh 8).trans c8_
 have HGH := Aside0.mk hgh
 have HB0 := Aside0.mk hb0
 have HKC := Aside0.mk (fun W => head_Known.calls 6 h.f6 _ W (Known_eq h.f6))
 clear hgh hb0 hghe
 go_cut [] from 1 to 0 (fun wx => Aside0 (headKB h = true) ∧ Aside0 (wx.heap[gh]? = some (.cells cs 31 (0, 0))) ∧ Aside0 (Below w.heap.size w wx))
 case first =>
  cases hkn : knownB h.f6 with
  | false =>
   rw [hkn] at HKC
   have HPE := Aside0.mk (po_kind (h := h) (by unfold headKB; rw [hkn]; rfl))
   clear hkn
   go_wp2_with (first | (go_at_call 8; refine (HKC.out _).mono ?_; rintro e w1 ⟨rfl, hb1⟩; have HB1 := Aside0.mk (below_step HB0.out hb1); have hc6a := pw_cell_below hb1 hc6; have hc8a := pw_cell_below hb1 hc8; have HGHa := Aside0.mk (blk_below HGH.out hb1); clear hb1) | (go_at_call 57; (with_reducible refine (need_not2 _ _).mono ?_); rintro e w9 ⟨rfl, rfl⟩))
   exact ⟨rfl, pr_err HPE.out HB1.out⟩
  | true =>
   rw [hkn] at HKC
   by_cases h83 : h.f6 = 83
   ·have e83 : (h.f6 != 83) = false := by rw [h83]; rfl
    by_cases h2 : h.f8 = 2
    ·have e2 : (h.f8 == 2) = true := beq_iff_eq.2 h2
     have HKB : Aside0 (headKB h = true) := ⟨by unfold headKB; rw [hkn, h2]; simp⟩
     clear hkn h83 h2
     go_wp2_with (first | (go_at_call 8; refine (HKC.out _).mono ?_; rintro e w1 ⟨rfl, hb1⟩; have HB1 := Aside0.mk (below_step HB0.out hb1); have hc6a := pw_cell_below hb1 hc6; have hc8a := pw_cell_below hb1 hc8; have HGHa := Aside0.mk (blk_below HGH.out hb1); clear hb1) | (go_at_call 57; (with_reducible refine (need_ok2 _ _).mono ?_); rintro e w9 ⟨rfl, rfl⟩))
     go_meet
     exact ⟨HKB, HGHa, HB1⟩
    ·have e2 : (h.f8 == 2) = false := beq_eq_false_iff_ne.2 h2
     have HPE := Aside0.mk (po_kind (h := h) (by unfold headKB; rw [hkn, e2, h83]; rfl))
     clear hkn h83 h2
     go_wp2_with (first | (go_at_call 8; refine (HKC.out _).mono ?_; rintro e w1 ⟨rfl, hb1⟩; have HB1 := Aside0.mk (below_step HB0.out hb1); have hc6a := pw_cell_below hb1 hc6; have hc8a := pw_cell_below hb1 hc8; have HGHa := Aside0.mk (blk_below HGH.out hb1); clear hb1) | (go_at_call 57; (with_reducible refine (need_not2 _ _).mono ?_); rintro e w9 ⟨rfl, rfl⟩))
     exact ⟨rfl, pr_err HPE.out HB1.out⟩
   ·have e83 : (h.f6 != 83) = true := bne_iff_ne.2 h83
    have HKB : Aside0 (headKB h = true) := ⟨by unfold headKB; rw [hkn, beq_eq_false_iff_ne.2 h83]; simp⟩
    clear hkn h83
    go_wp2_with (first | (go_at_call 8; refine (HKC.out _).mono ?_; rintro e w1 ⟨rfl, hb1⟩; have HB1 := Aside0.mk (below_step HB0.out hb1); have hc6a := pw_cell_below hb1 hc6; have hc8a := pw_cell_below hb1 hc8; have HGHa := Aside0.mk (blk_below HGH.out hb1); clear hb1) | (go_at_call 57; (with_reducible refine (need_ok2 _ _).mono ?_); rintro e w9 ⟨rfl, rfl⟩))
    go_meet
    exact ⟨HKB, HGHa, HB1⟩
 case rest =>
  obtain ⟨HKB, HGH, HB⟩ := hcut
  have HGL := Aside0.mk (blk_lt HGH.out)
  clear HB0 HKC
  go_upto_region 4 with (first | (refine make_bytes rfl 22 (.const (.int .i64 512)) (.const (.int .i64 512)) rfl 512 rfl rfl 5 Tryz.underlying22 info5 (by decide) ?_; intro bb hbb w2 hbk hb2) | (refine wpList_load_row rfl 31 _ rfl gh rfl 31 cs (0, 0) _ (blk_below HGH.out hb2) Tryz.underlying31 rfl (by rw [HSZ.out]; kernel_rfl) ?_) | (refine wpList_store_rowTo rfl 31 _ _ rfl rfl w2.heap.size cs rfl rfl 31 zeroH (row2_alloc w2 zeroH 31) (by rw [HSZ.out]; kernel_rfl) (by rw [HSZ.out]; rfl) HONE.out ?_))
  obtain ⟨ga, hga⟩ : ∃ n, n = w2.heap.size := ⟨_, rfl⟩
  have hbl := blk_lt hbk
  have hr0 := row2_alloc w2 zeroH 31
  have hga3 := setRow_same (cells := cs) hr0
  have hbk3 := (setRow_far (w2.alloc (.cells zeroH 31)) w2.heap.size bb cs (Nat.ne_of_gt hbl)).trans (blk_below hbk (below_alloc (Below.refl w2.heap.size w2) (.cells zeroH 31)))
  have hgh2 := blk_below HGH.out hb2
  have hgh3 := (setRow_far (w2.alloc (.cells zeroH 31)) w2.heap.size gh cs (Nat.ne_of_gt (blk_lt hgh2))).trans (blk_below hgh2 (below_alloc (Below.refl w2.heap.size w2) (.cells zeroH 31)))
  have hB2 := below_step HB.out hb2
  have hB3 := pw_below_grown (below_alloc hB2 (.cells zeroH 31)) (some w2.heap.size) (below_alloc hB2 (.cells zeroH 31)).size (grown_setRow _ w2.heap.size cs) (fun k hk => by injection hk with hk; rw [← hk]; exact hB2.size)
  change Code.wp _ _ _ _ ((w2.alloc (.cells zeroH 31)).setRow w2.heap.size cs)
  have HGB := Aside0.mk (show gh < bb by rw [hbb]; exact HGL.out)
  have HBA := Aside0.mk (show bb < ga by rw [hga]; exact hbl)
  have HBB := Aside0.mk (show w.heap.size ≤ bb from Nat.le_of_lt (Nat.lt_of_le_of_lt HGE.out HGB.out))
  have HAB := Aside0.mk (show w.heap.size ≤ ga from Nat.le_of_lt (Nat.lt_of_le_of_lt HBB.out HBA.out))
  generalize (w2.alloc (.cells zeroH 31)).setRow w2.heap.size cs = w3 at hga3 hbk3 hgh3 hB3 ⊢
  rw [← hga] at hga3 ⊢
  rw [← hbb]
  have hc8 := (blk_cell hga3 8).trans c8_
  have hf8 := blk_frozen hga3 8
  have hg4 := blk_set hga3 8 (.int .i64 1)
  have hk4 := blk_far (p := ⟨ga, 8, none⟩) hbk3 (Nat.ne_of_lt HBA.out) (.int .i64 1)
  have hh4 := blk_far (p := ⟨ga, 8, none⟩) hgh3 (Nat.ne_of_lt (Nat.lt_trans HGB.out HBA.out)) (.int .i64 1)
  have hb4 := below_set (j := 8) (v := .int .i64 1) hB3 HAB.out
  have HG4 := Aside0.mk hg4
  have HK4 := Aside0.mk hk4
  have HH4 := Aside0.mk hh4
  have HB4 := Aside0.mk hb4
  clear hr0 hbl hga3 hbk3 hgh2 hgh3 hB2 hB3 hg4 hk4 hh4 hb4 hga hbb hbk hb2
  go_upto_region 5 with (fail)
  generalize w3.setCell ⟨ga, 8, none⟩ (.int .i64 1) = w4 at HG4 HK4 HH4 HB4 ⊢
  have htx := texts_calls ga 1 _ w4 HG4.out (Array.getElem?_setIfInBounds_self_of_lt (by rw [HSZ.out]; decide))
  unfold TextsPost at htx
  obtain ⟨T, hT⟩ : ∃ T, T = textsL 1 := ⟨_, rfl⟩
  obtain ⟨m, hm⟩ : ∃ m, m = T.length := ⟨_, rfl⟩
  rw [← hT, ← hm] at htx
  have HTX := Aside0.mk htx
  have HMT := Aside0.mk hm
  have HMP := Aside0.mk (show 0 < m ∧ m ≤ 100 by rw [hm, hT]; decide)
  have HTO := Aside0.mk (show ∀ t ∈ T, TxtOk t by rw [hT]; exact textsL_txt)
  obtain ⟨R, hR⟩ : ∃ R, R = textsP h T (List.replicate 512 0) := ⟨_, rfl⟩
  have HR := Aside0.mk hR
  have HTE := Aside0.mk hT
  obtain ⟨ca, hca⟩ : ∃ c, c = cs.setIfInBounds 8 (.int .i64 1) := ⟨_, rfl⟩
  have HCA := Aside0.mk (show ∀ (idx : Nat), idx = 0 ∨ idx = 7 ∨ idx = 9 ∨ idx = 10 ∨ idx = 13 → ca[idx]? = some (.string (txtOf h idx)) by
   intro idx hi
   rw [hca, Array.getElem?_setIfInBounds_ne (by omega), HCS.out]
   exact cell_txt h _ idx hi)
  rw [← hca] at HG4
  clear htx hm hT hR hca hc6 hc8 hf8 HGL HB
  go_wp2_with (go_at_call 62; refine HTX.out.mono ?_; rintro e w5 ⟨v4, rfl, ho, hb4⟩; obtain ⟨tb, tc, cut, rfl, htb, htc, htw, hcu⟩ := own_open ho HMP.out.1; have HTW := Aside0.mk htw; have HCT := Aside0.mk hcu; have HBT := Aside0.mk hb4; clear ho hb4 htw hcu htb htc)
  go_loopg [32] m (fun kq v32 wx => ∃ (j : Nat) (b : List Int), v32 = .int .i64 (j : Int) ∧ Aside0 (j + kq = m) ∧ Aside0 (textsP h (T.drop j) b = R) ∧ Aside0 (Blk b) ∧ Aside0 (wx.heap[bb]? = some (.cells (u8c b).toArray 5 (0, 0))) ∧ Aside0 (wx.heap[ga]? = some (.cells ca 31 (0, 0))) ∧ Aside0 (wx.heap[gh]? = some (.cells cs 31 (0, 0))) ∧ Aside0 (wx.heap[tb]? = some (.cells cut 93 (0, 0))) ∧ Aside0 (Below w.heap.size w wx))
  case atStart => exact ⟨0, _, rfl, ⟨Nat.zero_add _⟩, ⟨HR.out.symm⟩, ⟨Blk.zero⟩, ⟨blk_below HK4.out HBT.out⟩, ⟨blk_below HG4.out HBT.out⟩, ⟨blk_below HH4.out HBT.out⟩, HTW, ⟨below_step HB4.out HBT.out⟩⟩
  case round =>
   obtain ⟨j, b, rfl, HJ, HGT, HBL, HK, HG, HH, HW, HB⟩ := hrel
   have HTA := Aside0.mk (show ga < w4.heap.size from blk_lt HG4.out)
   clear HTX HG4 HK4 HH4 HB4 HTW HBT
   by_cases hlt : j < m
   ·have hltT : j < T.length := by rw [← HMT.out]; exact hlt
    obtain ⟨⟨at_, wd, idx⟩, ht⟩ : ∃ t, T[j] = t := ⟨_, rfl⟩
    have hok := HTO.out _ (List.getElem_mem hltT)
    rw [ht] at hok
    obtain ⟨ho1, ho2⟩ := hok
    change at_ + wd ≤ 512 at ho1
    change idx = 0 ∨ idx = 7 ∨ idx = 9 ∨ idx = 10 ∨ idx = 13 at ho2
    have f0 := (blk_cell HW.out (j * 3)).trans (HCT.out (j * 3 + 0) (.int .i64 (at_ : Int)) ((flat_get3 ga T j hltT 0 (by omega)).trans (by rw [ht]; rfl)))
    have f1 := (blk_cell HW.out (j * 3 + 1)).trans (HCT.out (j * 3 + 1) (.int .i64 (wd : Int)) ((flat_get3 ga T j hltT 1 (by omega)).trans (by rw [ht]; rfl)))
    have f2 := (blk_cell HW.out (j * 3 + 2)).trans (HCT.out (j * 3 + 2) (.pointer (some ⟨ga, idx, none⟩)) ((flat_get3 ga T j hltT 2 (by omega)).trans (by rw [ht]; rfl)))
    have p0 : (0 ≤ (j : Int)) = True := eq_true (by omega)
    have q0 : ((j : Int) < (m : Int)) = True := eq_true (by omega)
    have q1 : (j < m) = True := eq_true hlt
    have q2' : decide ((j : Int) < (m : Int)) = true := decide_eq_true (by omega)
    have q3 : decide (j < m) = true := decide_eq_true hlt
    have hmx : (j : Int) ≤ 100 := by have := HMP.out.2; omega
    have HGT2 : Aside0 (textsP h ((at_, wd, idx) :: T.drop (j + 1)) b = R) := ⟨by rw [← HGT.out, List.drop_eq_getElem_cons hltT, ht]⟩
    clear ht
    have HLT := Aside0.mk hlt
    have HO1 := Aside0.mk ho1
    have HO2 := Aside0.mk ho2
    clear hltT hlt HGT ho1 ho2
    go_upto_region 8 with (fail)
    have hbx := row2_alloc wr #[.int .i64 (at_ : Int), .int .i64 (wd : Int), .pointer (some ⟨ga, idx, none⟩)] 93
    have hW : Below wr.heap.size wr (wr.alloc (.cells #[.int .i64 (at_ : Int), .int .i64 (wd : Int), .pointer (some ⟨ga, idx, none⟩)] 93)) := Below.alloc (Below.refl _ wr) (Nat.le_refl _) _
    have HBw := Aside0.mk (below_alloc HB.out (.cells #[.int .i64 (at_ : Int), .int .i64 (wd : Int), .pointer (some ⟨ga, idx, none⟩)] 93))
    have HKw := Aside0.mk (blk_below HK.out hW)
    have HGw := Aside0.mk (blk_below HG.out hW)
    have HHw := Aside0.mk (blk_below HH.out hW)
    have HWw := Aside0.mk (blk_below HW.out hW)
    have HXW := Aside0.mk (blk_lt HW.out)
    have HXB := Aside0.mk (blk_lt HK.out)
    generalize wr.alloc (.cells #[.int .i64 (at_ : Int), .int .i64 (wd : Int), .pointer (some ⟨ga, idx, none⟩)] 93) = wb at hbx HBw HKw HGw HHw HWw ⊢
    generalize wr.heap.size = bx at hbx HXW HXB ⊢
    obtain ⟨s, hs⟩ : ∃ s, s = txtOf h idx := ⟨_, rfl⟩
    obtain ⟨⟨fl, ok⟩, hput⟩ : ∃ p, sputF s (wd : Int) = p := ⟨_, rfl⟩
    have b1 : wb.cell? ⟨bx, 1, none⟩ = some (.int .i64 (wd : Int)) := (blk_cell hbx 1).trans rfl
    have b2 : wb.cell? ⟨bx, 2, none⟩ = some (.pointer (some ⟨ga, idx, none⟩)) := (blk_cell hbx 2).trans rfl
    have bs : wb.cell? ⟨ga, idx, none⟩ = some (.string s) := (blk_cell HGw.out idx).trans (by rw [hs]; exact HCA.out idx HO2.out)
    have HBX := Aside0.mk hbx
    have HPUT := Aside0.mk hput
    have HS := Aside0.mk hs
    have HPC := Aside0.mk (fun W => str_Put.calls s (wd : Int) fl ok W (by unfold str_Put.f; rw [if_pos (by have := HO1.out; omega), hput]))
    clear hbx hput hs f0 f1 f2 hW HB HK HG HH HW
    go_region_held3 (fun w' => w'.cell? ⟨bx, 1, none⟩ = some (.int .i64 (wd : Int)) ∧ w'.cell? ⟨bx, 2, none⟩ = some (.pointer (some ⟨ga, idx, none⟩)) ∧ w'.cell? ⟨ga, idx, none⟩ = some (.string s)) (first | go_keep | exact ⟨k1, k2, ks⟩) ((go_at_call 64; refine (HPC.out _).mono ?_; rintro e w7 ⟨v7, rfl, hR7, hb7⟩; obtain ⟨A7, c7, rfl⟩ := Kd.R_slice hR7; have k1 := pw_cell_below hb7 b1; have k2 := pw_cell_below hb7 b2; have ks := pw_cell_below hb7 bs; have HB7 := Aside0.mk hb7; have HR7 := Aside0.mk hR7; clear hb7 hR7))
    go_upto_region 9 with (fail)
    have hb7 := below_step (below_drew HBw.out) HB7.out
    have hk7 := blk_below (w := wb.drew) (show wb.drew.heap[bb]? = _ from HKw.out) HB7.out
    have hg7 := blk_below (w := wb.drew) (show wb.drew.heap[ga]? = _ from HGw.out) HB7.out
    have hh7 := blk_below (w := wb.drew) (show wb.drew.heap[gh]? = _ from HHw.out) HB7.out
    have hw7 := blk_below (w := wb.drew) (show wb.drew.heap[tb]? = _ from HWw.out) HB7.out
    have hx7 := blk_below (w := wb.drew) (show wb.drew.heap[bx]? = _ from HBX.out) HB7.out
    have b0 : w7.cell? ⟨bx, 0, none⟩ = some (.int .i64 (at_ : Int)) := (blk_cell hx7 0).trans rfl
    have HB := Aside0.mk hb7
    have HK := Aside0.mk hk7
    have HG := Aside0.mk hg7
    have HH := Aside0.mk hh7
    have HW := Aside0.mk hw7
    clear HBw HKw HGw HHw HWw HBX HB7 hb7 hk7 hg7 hh7 hw7 hx7 b1 b2 bs HPC
    cases ok with
    | false =>
     have HPE := Aside0.mk (po_text HKB.out (by rw [← HTE.out, ← HR.out, ← HGT2.out]; exact textsP_not h at_ wd idx (T.drop (j + 1)) b s fl HS.out HPUT.out))
     go_wp2_with (go_at_call 57; (with_reducible refine (need_not2 _ _).mono ?_); rintro e w9 ⟨rfl, rfl⟩)
     exact ⟨rfl, pr_err HPE.out HB.out⟩
    | true =>
     have HPO := Aside0.mk (sput_ok s wd (by rw [HPUT.out]))
     have HGT3 := Aside0.mk ((textsP_ok h at_ wd idx (T.drop (j + 1)) b s fl HS.out HPUT.out).symm.trans HGT2.out)
     clear HGT2
     by_cases hs0 : s.toList = []
     ·have HS0 := Aside0.mk hs0
      go_wp2_with (go_at_call 57; (with_reducible refine (need_ok2 _ _).mono ?_); rintro e w9 ⟨rfl, rfl⟩)
      have hj1 := HJ.out
      have hlt := HLT.out
      obtain ⟨k1, rfl⟩ : ∃ k1, gk = k1 + 1 := ⟨gk - 1, by omega⟩
      go_roundg k1
      case measure => omega
      case rel => exact ⟨j + 1, b, by go_num, ⟨by omega⟩, ⟨by rw [← HGT3.out, if_pos HS0.out]⟩, HBL, HK, HG, HH, HW, HB⟩
     ·have HS0 := Aside0.mk hs0
      have e52 : s.toList.isEmpty = false := by
       cases hl : s.toList with
       | nil => exact absurd hl hs0
       | cons a l => rfl
      clear hs0
      obtain ⟨i0, hi0, _, hsz0, _⟩ := info_parts info5
      have ho1 := HO1.out
      have h39 := cut_from (P := Tryz.prog) 22 5 .i64 Tryz.underlying22 hi0 1 hsz0 (some ⟨bb, 0, none⟩) 512 512 (at_ : Int) (by omega) (by omega)
      simp only [Int.toNat_natCast] at h39
      obtain ⟨A39, hA39⟩ : ∃ A1, A1 = (if 512 = at_ then (some ⟨bb, 0, none⟩) else ((some ⟨bb, 0, none⟩) : Option Addr).map (·.add (at_ * 1))) := ⟨_, rfl⟩
      obtain ⟨L39, hL39⟩ : ∃ L, L = 512 - at_ := ⟨_, rfl⟩
      rw [← hA39, ← hL39] at h39
      have HA39 := Aside0.mk (show 0 < wd → A39 = some ⟨bb, at_, none⟩ by
       intro h0
       rw [hA39, if_neg (by omega), Option.map_some]
       simp [Addr.add]
       try omega)
      have HL39 := Aside0.mk hL39
      have HF : Aside0 (fl.length = wd) := ⟨by have := HPO.out.1; rw [HPUT.out] at this; exact this⟩
      have HFB : Aside0 (Bytes fl) := ⟨by have := HPO.out.2; rw [HPUT.out] at this; exact this⟩
      have HSR := Aside0.mk (fun h0 => src_cells (Kd.R_reads' HR7.out).2.2 fl.length (Nat.le_refl _) h0)
      clear hA39 hL39 hi0 hsz0 ho1
      go_wp2_with (first | (go_at_call 57; (with_reducible refine (need_ok2 _ _).mono ?_); rintro e w9 ⟨rfl, rfl⟩) | (refine copy_put rfl (.tmp 56) (.tmp 57) 22 22 rfl 5 Tryz.underlying22 (by kernel_rfl) A39 A7 L39 L39 fl.length c7 rfl rfl bb at_ (u8c b) 5 HK.out (u8c fl) ?hn ?hpos ?hfit ?h1 w.heap.size w HB.out HBB.out ?_))
      case hn =>
       rw [u8c_length, HF.out, HL39.out]
       show wd = min wd (512 - at_)
       have := HO1.out
       omega
      case hpos =>
       intro h0
       rw [u8c_length] at h0
       obtain ⟨ad2, e2, hc⟩ := HSR.out h0
       rw [List.take_of_length_le (Nat.le_refl _)] at hc
       exact ⟨HA39.out (by rw [← HF.out]; exact h0), ad2, e2, hc _ (Below.refl _ _)⟩
      case hfit =>
       rw [u8c_length, u8c_length, HF.out, HBL.out.len]
       exact HO1.out
      case h1 =>
       intro v hv
       obtain ⟨z, _, rfl⟩ := List.mem_map.1 hv
       rfl
      intro w9 HG9 hk9 hB9
      rw [u8c_splice] at HG9
      have HG' := Aside0.mk ((hk9 ga (Nat.ne_of_gt HBA.out)).trans HG.out)
      have HH' := Aside0.mk ((hk9 gh (Nat.ne_of_lt HGB.out)).trans HH.out)
      have HW' := Aside0.mk ((hk9 tb (blk_ne HW.out HK.out (by decide))).trans HW.out)
      have HB' := Aside0.mk hB9
      clear hk9 hB9 h39
      go_wp2
      have hj1 := HJ.out
      have hlt := HLT.out
      obtain ⟨k1, rfl⟩ : ∃ k1, gk = k1 + 1 := ⟨gk - 1, by omega⟩
      go_roundg k1
      case measure => omega
      case rel => exact ⟨j + 1, splice b at_ fl, by go_num, ⟨by omega⟩, ⟨by rw [← HGT3.out, if_neg HS0.out]⟩, ⟨HBL.out.splice at_ fl HFB.out (by rw [HF.out]; exact HO1.out)⟩, HG9, HG', HH', HW', HB'⟩
   ·obtain rfl : j = m := by have := HJ.out; omega
    have HRS : Aside0 (textsP h (textsL 1) (List.replicate 512 0) = some b) := ⟨by rw [← HTE.out, ← HR.out, ← HGT.out, HMT.out, List.drop_length]; rfl⟩
    have q2' : decide ((j : Int) < (j : Int)) = false := decide_eq_false (by omega)
    clear HGT HCT HTO HCA HTE HR HMT HMP hlt HJ HG HW
    go_upto_region 13 with (fail)
    have hc8 : wr.cell? ⟨gh, 8, none⟩ = some (.int .i64 h.f8) := (blk_cell HH.out 8).trans c8_
    have hc14 : wr.cell? ⟨gh, 14, none⟩ = some (.slice A14 h.f14.length c14) := (blk_cell HH.out 14).trans (by rw [HCS.out]; rfl)
    have HBC := Aside0.mk (fun W => HCS.out ▸ head_bare_calls h A14 c14 W)
    obtain ⟨kc, hkc⟩ := Ev.rounds (Contains38 h.f14 (by have := Kd.C_max HP.out; omega))
    have HCC := Aside0.mk (fun (W : World) (hb : Below w.heap.size w W) => api_Part_66.calls kc A14 c14 h.f14 0 0 _ W (Kd.C_below HP.out hb) HC.out hkc)
    obtain ⟨np, hnp⟩ : ∃ n, n = h.f14.length := ⟨_, rfl⟩
    clear hkc
    go_cut [] from 1 to 0 (fun wx => Aside0 (headFB h = true) ∧ Aside0 (wx.heap[bb]? = some (.cells (u8c b).toArray 5 (0, 0))) ∧ Aside0 (wx.heap[gh]? = some (.cells cs 31 (0, 0))) ∧ Aside0 (Below w.heap.size w wx))
    case first =>
     by_cases h1 : 0 ≤ h.f8
     ·have d1 : decide (0 ≤ h.f8) = true := decide_eq_true h1
      by_cases h2 : h.f8 ≤ 2
      ·have d2 : decide (h.f8 ≤ 2) = true := decide_eq_true h2
       cases h3 : bareB h with
       | true =>
        rw [h3] at HBC
        by_cases h4 : h.f14.length ≤ 4
        ·have d4 : decide (h.f14.length ≤ 4) = true := decide_eq_true h4
         have d4i : decide ((h.f14.length : Int) ≤ 4) = true := decide_eq_true (by omega)
         cases hz : h.f14.any zeroPart with
         | true =>
          rw [hz] at HCC
          have HPE := Aside0.mk (po_fit HKB.out HRS.out (by unfold headFB; rw [hz]; simp))
          clear h1 h2 h3 h4 hz
          go_wp2_with (first | (refine gate_guard (by rfl) ?_; refine wpList_load_row rfl 31 _ rfl gh rfl 31 cs (0, 0) _ HH.out Tryz.underlying31 rfl (by rw [HSZ.out]; kernel_rfl) ?_) | (go_at_call 65; refine (HBC.out _).mono ?_; rintro e w1 ⟨rfl, hb1⟩; have HB1 := Aside0.mk (below_step HB.out hb1); have HK1 := Aside0.mk (blk_below HK.out hb1); have HH1 := Aside0.mk (blk_below HH.out hb1); have hc14b := pw_cell_below hb1 hc14; clear hb1) | (go_at_call 66; refine (HCC.out _ HB1.out).mono ?_; rintro e w2 ⟨rfl, hb1⟩; have HB2 := Aside0.mk (below_step HB1.out hb1); have HK2 := Aside0.mk (blk_below HK1.out hb1); have HH2 := Aside0.mk (blk_below HH1.out hb1); clear hb1) | (go_at_call 57; (with_reducible refine (need_not2 _ _).mono ?_); rintro e w9 ⟨rfl, rfl⟩))
          exact ⟨rfl, pr_err HPE.out HB2.out⟩
         | false =>
          rw [hz] at HCC
          have HFB : Aside0 (headFB h = true) := ⟨by unfold headFB; rw [d1, d2, h3, d4, hz]; rfl⟩
          clear h1 h2 h3 h4 hz
          go_wp2_with (first | (refine gate_guard (by rfl) ?_; refine wpList_load_row rfl 31 _ rfl gh rfl 31 cs (0, 0) _ HH.out Tryz.underlying31 rfl (by rw [HSZ.out]; kernel_rfl) ?_) | (go_at_call 65; refine (HBC.out _).mono ?_; rintro e w1 ⟨rfl, hb1⟩; have HB1 := Aside0.mk (below_step HB.out hb1); have HK1 := Aside0.mk (blk_below HK.out hb1); have HH1 := Aside0.mk (blk_below HH.out hb1); have hc14b := pw_cell_below hb1 hc14; clear hb1) | (go_at_call 66; refine (HCC.out _ HB1.out).mono ?_; rintro e w2 ⟨rfl, hb1⟩; have HB2 := Aside0.mk (below_step HB1.out hb1); have HK2 := Aside0.mk (blk_below HK1.out hb1); have HH2 := Aside0.mk (blk_below HH1.out hb1); clear hb1) | (go_at_call 57; (with_reducible refine (need_ok2 _ _).mono ?_); rintro e w9 ⟨rfl, rfl⟩))
          go_meet
          exact ⟨HFB, HK2, HH2, HB2⟩
        ·have d4 : decide (h.f14.length ≤ 4) = false := decide_eq_false h4
         have d4i : decide ((h.f14.length : Int) ≤ 4) = false := decide_eq_false (by omega)
         have HPE := Aside0.mk (po_fit HKB.out HRS.out (by unfold headFB; rw [d4]; simp))
         clear h1 h2 h3 h4
         go_wp2_with (first | (refine gate_guard (by rfl) ?_; refine wpList_load_row rfl 31 _ rfl gh rfl 31 cs (0, 0) _ HH.out Tryz.underlying31 rfl (by rw [HSZ.out]; kernel_rfl) ?_) | (go_at_call 65; refine (HBC.out _).mono ?_; rintro e w1 ⟨rfl, hb1⟩; have HB1 := Aside0.mk (below_step HB.out hb1); have HK1 := Aside0.mk (blk_below HK.out hb1); have HH1 := Aside0.mk (blk_below HH.out hb1); have hc14b := pw_cell_below hb1 hc14; clear hb1) | (go_at_call 57; (with_reducible refine (need_not2 _ _).mono ?_); rintro e w9 ⟨rfl, rfl⟩))
         exact ⟨rfl, pr_err HPE.out HB1.out⟩
       | false =>
        rw [h3] at HBC
        have HPE := Aside0.mk (po_fit HKB.out HRS.out (by unfold headFB; rw [h3]; simp))
        clear h1 h2 h3
        go_wp2_with (first | (refine gate_guard (by rfl) ?_; refine wpList_load_row rfl 31 _ rfl gh rfl 31 cs (0, 0) _ HH.out Tryz.underlying31 rfl (by rw [HSZ.out]; kernel_rfl) ?_) | (go_at_call 65; refine (HBC.out _).mono ?_; rintro e w1 ⟨rfl, hb1⟩; have HB1 := Aside0.mk (below_step HB.out hb1); have HK1 := Aside0.mk (blk_below HK.out hb1); have HH1 := Aside0.mk (blk_below HH.out hb1); have hc14b := pw_cell_below hb1 hc14; clear hb1) | (go_at_call 57; (with_reducible refine (need_not2 _ _).mono ?_); rintro e w9 ⟨rfl, rfl⟩))
        exact ⟨rfl, pr_err HPE.out HB1.out⟩
      ·have d2 : decide (h.f8 ≤ 2) = false := decide_eq_false h2
       have HPE := Aside0.mk (po_fit HKB.out HRS.out (by unfold headFB; rw [d2]; simp))
       clear h1 h2
       go_wp2_with (go_at_call 57; (with_reducible refine (need_not2 _ _).mono ?_); rintro e w9 ⟨rfl, rfl⟩)
       exact ⟨rfl, pr_err HPE.out HB.out⟩
     ·have d1 : decide (0 ≤ h.f8) = false := decide_eq_false h1
      have HPE := Aside0.mk (po_fit HKB.out HRS.out (by unfold headFB; rw [d1]; simp))
      clear h1
      go_wp2_with (go_at_call 57; (with_reducible refine (need_not2 _ _).mono ?_); rintro e w9 ⟨rfl, rfl⟩)
      exact ⟨rfl, pr_err HPE.out HB.out⟩
    case rest =>
     obtain ⟨HFB, HK5, HH5, HB5⟩ := hcut
     clear HK HH HB HBC HCC HTA hc8 hc14 q2' hnp
     have hnum := numbers_calls gh h.f8 h.f6 _ wc HH5.out c8_ c6_
     unfold NumbersPost at hnum
     obtain ⟨E, hE⟩ : ∃ E, E = numbersL h.f8 h.f6 := ⟨_, rfl⟩
     obtain ⟨n, hnE⟩ : ∃ n, n = E.length := ⟨_, rfl⟩
     have HEN := Aside0.mk hnE
     have HEO := Aside0.mk (show ∀ t ∈ E, NumOk t by rw [hE]; exact numbersL_num _ _)
     have HEP := Aside0.mk (show 0 < n ∧ n ≤ 100 by rw [hnE, hE]; exact ⟨numbersL_pos _ _, by unfold numbersL; split <;> split <;> simp⟩)
     rw [← hE, ← hnE] at hnum
     have HNUM := Aside0.mk hnum
     have HE := Aside0.mk hE
     obtain ⟨R2, hR2⟩ : ∃ R, R = numsP h E b := ⟨_, rfl⟩
     have HR2 := Aside0.mk hR2
     have HCN := Aside0.mk (show ∀ (idx : Nat), (idx = 1 ∨ idx = 2 ∨ idx = 3 ∨ idx = 4 ∨ idx = 5 ∨ idx = 11 ∨ idx = 12 ∨ idx = 16) → cs[idx]? = some (.int .i64 (numOf h idx)) by
      intro idx hi
      rw [HCS.out]
      exact cell_num h _ idx hi)
     clear hnum hnE hE hR2
     go_wp2_with (go_at_call 59; refine HNUM.out.mono ?_; rintro e w5 ⟨v4, rfl, ho, hb4⟩; obtain ⟨rb, rc, cur, rfl, hrb, hrc, hrw, hcu⟩ := own_open ho HEP.out.1; have HRW := Aside0.mk hrw; have HCU := Aside0.mk hcu; have HBN := Aside0.mk hb4; clear ho hb4 hrw hcu hrb hrc)
     go_loopg [88] n (fun kq v88 wx => ∃ (i : Nat) (b : List Int), v88 = .int .i64 (i : Int) ∧ Aside0 (i + kq = n) ∧ Aside0 (numsP h (E.drop i) b = R2) ∧ Aside0 (Blk b) ∧ Aside0 (wx.heap[bb]? = some (.cells (u8c b).toArray 5 (0, 0))) ∧ Aside0 (wx.heap[gh]? = some (.cells cs 31 (0, 0))) ∧ Aside0 (wx.heap[rb]? = some (.cells cur 86 (0, 0))) ∧ Aside0 (Below w.heap.size w wx))
     case atStart => exact ⟨0, b, rfl, ⟨Nat.zero_add _⟩, ⟨HR2.out.symm⟩, HBL, ⟨blk_below HK5.out HBN.out⟩, ⟨blk_below HH5.out HBN.out⟩, HRW, ⟨below_step HB5.out HBN.out⟩⟩
     case round =>
      obtain ⟨i, b2, rfl, HI, HGO, HBL2, HK, HH, HRWx, HB⟩ := hrel
      clear HNUM HK5 HH5 HB5 HRW HBN
      by_cases hlt : i < n
      ·have hltE : i < E.length := by rw [← HEN.out]; exact hlt
       obtain ⟨⟨at_, wd, idx, lo, hi_⟩, ht⟩ : ∃ t, E[i] = t := ⟨_, rfl⟩
       have hok := HEO.out _ (List.getElem_mem hltE)
       rw [ht] at hok
       obtain ⟨ho1, ho2, ho3, ho4⟩ := hok
       change at_ + wd ≤ 512 at ho1
       change wd = 8 ∨ wd = 12 at ho2
       change hi_ ≤ 4611686018427387904 at ho3
       change idx = 1 ∨ idx = 2 ∨ idx = 3 ∨ idx = 4 ∨ idx = 5 ∨ idx = 11 ∨ idx = 12 ∨ idx = 16 at ho4
       have f0 := (blk_cell HRWx.out (i * 5)).trans (HCU.out (i * 5 + 0) (.int .i64 (at_ : Int)) ((flat_get gh E i hltE 0 (by omega)).trans (by rw [ht]; rfl)))
       have f1 := (blk_cell HRWx.out (i * 5 + 1)).trans (HCU.out (i * 5 + 1) (.int .i64 (wd : Int)) ((flat_get gh E i hltE 1 (by omega)).trans (by rw [ht]; rfl)))
       have f2 := (blk_cell HRWx.out (i * 5 + 2)).trans (HCU.out (i * 5 + 2) (.pointer (some ⟨gh, idx, none⟩)) ((flat_get gh E i hltE 2 (by omega)).trans (by rw [ht]; rfl)))
       have f3 := (blk_cell HRWx.out (i * 5 + 3)).trans (HCU.out (i * 5 + 3) (.int .i64 lo) ((flat_get gh E i hltE 3 (by omega)).trans (by rw [ht]; rfl)))
       have f4 := (blk_cell HRWx.out (i * 5 + 4)).trans (HCU.out (i * 5 + 4) (.int .i64 hi_) ((flat_get gh E i hltE 4 (by omega)).trans (by rw [ht]; rfl)))
       have p0 : (0 ≤ (i : Int)) = True := eq_true (by omega)
       have q0 : ((i : Int) < (n : Int)) = True := eq_true (by omega)
       have q1 : (i < n) = True := eq_true hlt
       have q2 : decide ((i : Int) < (n : Int)) = true := decide_eq_true (by omega)
       have q3 : decide (i < n) = true := decide_eq_true hlt
       have hmx : (i : Int) ≤ 100 := by have := HEP.out.2; omega
       have HGO2 : Aside0 (numsP h ((at_, wd, idx, lo, hi_) :: E.drop (i + 1)) b2 = R2) := ⟨by rw [← HGO.out, List.drop_eq_getElem_cons hltE, ht]⟩
       have HLT := Aside0.mk hlt
       have HO1 := Aside0.mk ho1
       obtain ⟨x, hx⟩ : ∃ x, x = numOf h idx := ⟨_, rfl⟩
       obtain ⟨⟨fl, ok⟩, hput⟩ : ∃ p, putF x (wd : Int) = p := ⟨_, rfl⟩
       have HXC := Aside0.mk (show cs[idx]? = some (.int .i64 x) by rw [hx]; exact HCN.out idx ho4)
       have HX := Aside0.mk hx
       clear ht hltE hlt HGO hx
       go_upto_region 17 with (fail)
       have hbx := row2_alloc wr #[.int .i64 (at_ : Int), .int .i64 (wd : Int), .pointer (some ⟨gh, idx, none⟩), .int .i64 lo, .int .i64 hi_] 86
       have hW : Below wr.heap.size wr (wr.alloc (.cells #[.int .i64 (at_ : Int), .int .i64 (wd : Int), .pointer (some ⟨gh, idx, none⟩), .int .i64 lo, .int .i64 hi_] 86)) := Below.alloc (Below.refl _ wr) (Nat.le_refl _) _
       have hBw := below_alloc HB.out (.cells #[.int .i64 (at_ : Int), .int .i64 (wd : Int), .pointer (some ⟨gh, idx, none⟩), .int .i64 lo, .int .i64 hi_] 86)
       have hKw := blk_below HK.out hW
       have hHw := blk_below HH.out hW
       have hRw := blk_below HRWx.out hW
       generalize wr.alloc (.cells #[.int .i64 (at_ : Int), .int .i64 (wd : Int), .pointer (some ⟨gh, idx, none⟩), .int .i64 lo, .int .i64 hi_] 86) = wb at hbx hBw hKw hHw hRw ⊢
       generalize wr.heap.size = bx at hbx ⊢
       have b0 : wb.cell? ⟨bx, 0, none⟩ = some (.int .i64 (at_ : Int)) := (blk_cell hbx 0).trans rfl
       have b1 : wb.cell? ⟨bx, 1, none⟩ = some (.int .i64 (wd : Int)) := (blk_cell hbx 1).trans rfl
       have b2_ : wb.cell? ⟨bx, 2, none⟩ = some (.pointer (some ⟨gh, idx, none⟩)) := (blk_cell hbx 2).trans rfl
       have b3 : wb.cell? ⟨bx, 3, none⟩ = some (.int .i64 lo) := (blk_cell hbx 3).trans rfl
       have b4 : wb.cell? ⟨bx, 4, none⟩ = some (.int .i64 hi_) := (blk_cell hbx 4).trans rfl
       have hxc := (blk_cell hHw idx).trans HXC.out
       by_cases hg : okN x wd lo hi_
       ·obtain ⟨hg1, hg2, hg3⟩ := id hg
        rw [hput] at hg1
        obtain rfl : ok = true := hg1
        have hpo := put_ok x wd ho2 (by omega) (by rw [hput])
        rw [hput] at hpo
        have hly := head_lay_ok bb at_ wd ⟨gh, idx, none⟩ lo hi_ x b2 fl w wb hBw HBB.out hKw HBL2.out.len hxc hput hpo.1 ho1 hg2 hg3
        unfold fieldV at hly
        have HLY := Aside0.mk hly
        have HGO3 := Aside0.mk ((numsP_ok h at_ wd idx lo hi_ (E.drop (i + 1)) b2 x fl HX.out hput hg2 hg3).symm.trans HGO2.out)
        have HPO := Aside0.mk hpo
        have HHw := Aside0.mk hHw
        have HRw := Aside0.mk hRw
        have HKw := Aside0.mk hKw
        clear hg hg2 hg3 hput hpo hly hHw hRw hKw hBw hbx hxc hW ho1 ho2 ho3 ho4 f0 f1 f2 f3 f4 HGO2 HK HH HB
        go_wp2_with (go_at_call 67; refine HLY.out.mono ?_; rintro e w7 ⟨rfl, L7⟩; have HL7 := Aside0.mk L7; clear L7)
        have hi1 := HI.out
        have hlt := HLT.out
        obtain ⟨k1, rfl⟩ : ∃ k1, gk = k1 + 1 := ⟨gk - 1, by omega⟩
        go_roundg k1
        case measure => omega
        case rel => exact ⟨i + 1, splice b2 at_ fl, by go_num, ⟨by omega⟩, HGO3, ⟨HBL2.out.splice at_ fl HPO.out.2.1 (by rw [HPO.out.1]; exact HO1.out)⟩, ⟨HL7.out.bk⟩, ⟨(HL7.out.rest gh (blk_lt HHw.out) (Nat.ne_of_lt HGB.out)).trans HHw.out⟩, ⟨(HL7.out.rest rb (blk_lt HRw.out) (blk_ne HRw.out HKw.out (by decide))).trans HRw.out⟩, ⟨HL7.out.below⟩⟩
       ·have HPE := Aside0.mk (po_num HKB.out HRS.out HFB.out (by rw [← HE.out, ← HR2.out, ← HGO2.out]; exact numsP_not h at_ wd idx lo hi_ (E.drop (i + 1)) b2 x HX.out hg))
        have hly := head_lay_not (.slice (some ⟨bb, 0, none⟩) 512 512) ⟨gh, idx, none⟩ wd (at_ : Int) lo hi_ x fl ok wb hxc hput (okN_not hput hg)
        have HLY := Aside0.mk hly
        have HBw := Aside0.mk hBw
        clear hg hput hly hHw hRw hKw hBw hbx hxc hW ho1 ho2 ho3 ho4 f0 f1 f2 f3 f4 HGO2 HK HH HB
        go_wp2_with (go_at_call 67; refine HLY.out.mono ?_; rintro e w7 ⟨rfl, hb7⟩; have HB7 := Aside0.mk (below_step HBw.out hb7); clear hb7)
        exact ⟨rfl, pr_err HPE.out HB7.out⟩
      ·obtain rfl : i = n := by have := HI.out; omega
       have HRN : Aside0 (numsP h (numbersL h.f8 h.f6) b = some b2) := ⟨by rw [← HE.out, ← HR2.out, ← HGO.out, HEN.out, List.drop_length]; rfl⟩
       have q2 : decide ((i : Int) < (i : Int)) = false := decide_eq_false (by omega)
       clear HGO HCU HEO HCN HE HR2 HEN HEP hlt HI HRWx
       go_upto_region 19 with (fail)
       have HKQ := HK
       have HHQ := HH
       have HBQ := HB
       have HBLQ := HBL2
       clear HK HH HB HBL HBL2
       have hc14 : wr.cell? ⟨gh, 14, none⟩ = some (.slice A14 h.f14.length c14) := (blk_cell HHQ.out 14).trans (by rw [HCS.out]; rfl)
       have h4_ : h.f14.length ≤ 4 := by have hh := HFB.out; unfold headFB at hh; simp at hh; omega
       obtain ⟨P, hP⟩ : ∃ P, P = h.f14 := ⟨_, rfl⟩
       rw [← hP] at hc14 h4_
       have HPP := Aside0.mk hP
       have HP4 := Aside0.mk h4_
       obtain ⟨np, hnp⟩ : ∃ n, n = P.length := ⟨_, rfl⟩
       have HNP := Aside0.mk hnp
       rw [← hnp] at hc14
       obtain ⟨R3, hR3⟩ : ∃ R, R = partsP P 0 b2 := ⟨_, rfl⟩
       have HR3 := Aside0.mk hR3
       clear hP h4_ hnp hR3
       go_wp2
       clear hc14
       go_loopg [99] np (fun kq v99 wx => ∃ (i : Nat) (b : List Int), v99 = .int .i64 (i : Int) ∧ Aside0 (i + kq = np) ∧ Aside0 (partsP (P.drop i) i b = R3) ∧ Aside0 (Blk b) ∧ Aside0 (wx.heap[bb]? = some (.cells (u8c b).toArray 5 (0, 0))) ∧ Aside0 (wx.heap[gh]? = some (.cells cs 31 (0, 0))) ∧ Aside0 (Below w.heap.size w wx))
       case atStart => exact ⟨0, b2, rfl, ⟨Nat.zero_add _⟩, ⟨HR3.out.symm⟩, HBLQ, HKQ, HHQ, HBQ⟩
       case round =>
        obtain ⟨i, b3, rfl, HI, HGP, HBL3, HK, HH, HB⟩ := hrel
        clear HKQ HHQ HBQ HBLQ
        by_cases hlt : i < np
        ·have hltP : i < P.length := by rw [← HNP.out]; exact hlt
         obtain ⟨pp, hpp⟩ : ∃ p, P[i] = p := ⟨_, rfl⟩
         have hcp : Kd.C k64 w A14 np P := by rw [HNP.out, HPP.out]; exact HP.out
         obtain ⟨ad, hA, hx0, hx1⟩ := at_T64 hcp (i : Int) (by omega) (by omega)
         have erd : rd_T64 P (i : Int) = pp := by unfold rd_T64; rw [← hpp]; simp [hltP]
         rw [erd, Int.toNat_natCast] at hx0 hx1
         have HA := Aside0.mk hA
         subst hA
         have hc14 : wr.cell? ⟨gh, 14, none⟩ = some (.slice (some ad) np c14) := (blk_cell HH.out 14).trans (by rw [HCS.out, HNP.out, HPP.out]; rfl)
         have p0 : (0 ≤ (i : Int)) = True := eq_true (by omega)
         have q0 : ((i : Int) < (np : Int)) = True := eq_true (by omega)
         have q1 : (i < np) = True := eq_true hlt
         have q2' : decide ((i : Int) < (np : Int)) = true := decide_eq_true (by omega)
         have q3 : decide (i < np) = true := decide_eq_true hlt
         have hmx : (i : Int) ≤ 3 := by have := HP4.out; rw [← HNP.out] at this; omega
         have HLT := Aside0.mk hlt
         have HGP2 : Aside0 (partsP (pp :: P.drop (i + 1)) i b3 = R3) := ⟨by rw [← HGP.out, List.drop_eq_getElem_cons hltP, hpp]⟩
         clear hpp hcp erd hlt hltP HGP
         obtain ⟨⟨fl, ok0⟩, hput0⟩ : ∃ p, putF pp.f0 12 = p := ⟨_, rfl⟩
         obtain ⟨⟨fr, ok1⟩, hput1⟩ : ∃ p, putF pp.f1 12 = p := ⟨_, rfl⟩
         have hcast : ((386 + i * 24 : Nat) : Int) = 386 + (i : Int) * 24 := by omega
         have hcast2 : ((386 + i * 24 + 12 : Nat) : Int) = 386 + (i : Int) * 24 + 12 := by omega
         have hy0 := pw_cell_below HB.out hx0
         by_cases hg : okN pp.f0 12 0 4611686018427387904
         ·obtain ⟨hg1, hg2, hg3⟩ := id hg
          rw [show ((12 : Nat) : Int) = 12 from rfl, hput0] at hg1
          obtain rfl : ok0 = true := hg1
          have hpo := put_ok pp.f0 12 (.inr rfl) hg3 (by show (putF pp.f0 12).2 = true; rw [hput0])
          rw [show ((12 : Nat) : Int) = 12 from rfl, hput0] at hpo
          have hly := head_lay_ok bb (386 + i * 24) 12 (ad.add (i * 2)) 0 4611686018427387904 pp.f0 b3 fl w wr HB.out HBB.out HK.out HBL3.out.len hy0 hput0 hpo.1 (by omega) hg2 hg3
          unfold fieldV at hly
          rw [hcast] at hly
          have HLY := Aside0.mk hly
          have HPO := Aside0.mk hpo
          have HG := Aside0.mk hg
          have HPUT0 := Aside0.mk hput0
          clear hly hg hg2 hg3 hput0 hpo hy0 hx0
          go_upto_region 24 with (go_at_call 67; refine HLY.out.mono ?_; rintro e w7 ⟨rfl, L7⟩; have HL7 := Aside0.mk L7; clear L7)
          have hy1 := pw_cell_below HL7.out.below hx1
          have hc14' : w7.cell? ⟨gh, 14, none⟩ = some (.slice (some ad) np c14) := ((blk_cell ((HL7.out.rest gh (blk_lt HH.out) (Nat.ne_of_lt HGB.out)).trans HH.out) 14).trans (by rw [HCS.out, HNP.out, HPP.out]; rfl))
          have HH7 := Aside0.mk ((HL7.out.rest gh (blk_lt HH.out) (Nat.ne_of_lt HGB.out)).trans HH.out)
          have HB7 := Aside0.mk (HBL3.out.splice (386 + i * 24) fl HPO.out.2.1 (by rw [HPO.out.1]; omega))
          clear hc14 hx1
          by_cases hg : okN pp.f1 12 0 4611686018427387904
          ·obtain ⟨hg1, hg2, hg3⟩ := id hg
           rw [show ((12 : Nat) : Int) = 12 from rfl, hput1] at hg1
           obtain rfl : ok1 = true := hg1
           have hpo := put_ok pp.f1 12 (.inr rfl) hg3 (by show (putF pp.f1 12).2 = true; rw [hput1])
           rw [show ((12 : Nat) : Int) = 12 from rfl, hput1] at hpo
           have hly := head_lay_ok bb (386 + i * 24 + 12) 12 _ 0 4611686018427387904 pp.f1 (splice b3 (386 + i * 24) fl) fr w w7 HL7.out.below HBB.out HL7.out.bk HB7.out.len hy1 hput1 hpo.1 (by omega) hg2 hg3
           unfold fieldV at hly
           rw [hcast2] at hly
           have HLY2 := Aside0.mk hly
           have HPO2 := Aside0.mk hpo
           have HGP3 := Aside0.mk ((partsP_ok pp (P.drop (i + 1)) i b3 fl fr HG.out hg HPUT0.out hput1).symm.trans HGP2.out)
           clear hly hg hg2 hg3 hput1 hpo hy1
           go_wp2_with (go_at_call 67; refine HLY2.out.mono ?_; rintro e w8 ⟨rfl, L8⟩; have HL8 := Aside0.mk L8; clear L8)
           have hi1 := HI.out
           have hlt := HLT.out
           obtain ⟨k1, rfl⟩ : ∃ k1, gk = k1 + 1 := ⟨gk - 1, by omega⟩
           go_roundg k1
           case measure => omega
           case rel => exact ⟨i + 1, _, by go_num, ⟨by omega⟩, HGP3, ⟨HB7.out.splice (386 + i * 24 + 12) fr HPO2.out.2.1 (by rw [HPO2.out.1]; omega)⟩, ⟨HL8.out.bk⟩, ⟨(HL8.out.rest gh (blk_lt HH7.out) (Nat.ne_of_lt HGB.out)).trans HH7.out⟩, ⟨HL8.out.below⟩⟩
          ·have HPE := Aside0.mk (po_part HKB.out HRS.out HFB.out HRN.out (by rw [← HPP.out, ← HR3.out, ← HGP2.out]; exact partsP_not pp (P.drop (i + 1)) i b3 (.inr hg)))
           have hly := head_lay_not (.slice (some ⟨bb, 0, none⟩) 512 512) _ 12 ((386 + i * 24 + 12 : Nat) : Int) 0 4611686018427387904 pp.f1 fr ok1 w7 hy1 hput1 (okN_not hput1 hg)
           rw [hcast2] at hly
           have HLY2 := Aside0.mk hly
           clear hly hg hput1 hy1
           go_wp2_with (go_at_call 67; refine HLY2.out.mono ?_; rintro e w8 ⟨rfl, hb8⟩; have HB8 := Aside0.mk (below_step HL7.out.below hb8); clear hb8)
           exact ⟨rfl, pr_err HPE.out HB8.out⟩
         ·have HPE := Aside0.mk (po_part HKB.out HRS.out HFB.out HRN.out (by rw [← HPP.out, ← HR3.out, ← HGP2.out]; exact partsP_not pp (P.drop (i + 1)) i b3 (.inl hg)))
          have hly := head_lay_not (.slice (some ⟨bb, 0, none⟩) 512 512) (ad.add (i * 2)) 12 ((386 + i * 24 : Nat) : Int) 0 4611686018427387904 pp.f0 fl ok0 wr hy0 hput0 (okN_not hput0 hg)
          rw [hcast] at hly
          have HLY2 := Aside0.mk hly
          clear hly hg hput0 hy0 hx0
          go_wp2_with (go_at_call 67; refine HLY2.out.mono ?_; rintro e w8 ⟨rfl, hb8⟩; have HB8 := Aside0.mk (below_step HB.out hb8); clear hb8)
          exact ⟨rfl, pr_err HPE.out HB8.out⟩
        ·obtain rfl : i = np := by have := HI.out; omega
         have HRP : Aside0 (partsP h.f14 0 b2 = some b3) := ⟨by rw [← HPP.out, ← HR3.out, ← HGP.out, HNP.out, List.drop_length]; rfl⟩
         have q2 : decide ((i : Int) < (i : Int)) = false := decide_eq_false (by omega)
         have HPO := Aside0.mk (po_all HKB.out HRS.out HFB.out HRN.out HRP.out)
         have HFI := Aside0.mk (Blk.fin HBL3.out (h := h) (by have := HKB.out; unfold headKB at this; simp at this; exact this.1))
         clear hlt HGP HRP HR3 HI HRN HRS
         go_upto_region 26 with (fail)
         have hc6 : wr.cell? ⟨gh, 6, none⟩ = some (.int .u8 h.f6) := (blk_cell HH.out 6).trans c6_
         have hl3 := HBL3.out.len
         obtain ⟨old, hold⟩ : ∃ u, wr.cell? ⟨bb, 156, none⟩ = some u := ⟨_, (blk_cell HK.out 156).trans (Array.getElem?_eq_getElem (by rw [List.size_toArray, u8c_length, hl3]; decide))⟩
         have hfro := blk_frozen HK.out 156
         clear hl3
         go_upto_region 27 with (fail)
         have hk6 := blk_put (cs' := (u8c (b3.set 156 h.f6)).toArray) HK.out 156 (.int .u8 h.f6) (by unfold u8c; rw [List.setIfInBounds_toArray, ← List.map_set])
         have hh6 := blk_far (p := ⟨bb, 156, none⟩) HH.out (Nat.ne_of_lt HGB.out) (.int .u8 h.f6)
         have hb6 := below_set (j := 156) (v := .int .u8 h.f6) HB.out HBB.out
         generalize wr.setCell ⟨bb, 156, none⟩ (.int .u8 h.f6) = w6 at hk6 hh6 hb6 ⊢
         have HL6 := Aside0.mk (show (b3.set 156 h.f6).length = 512 by rw [List.length_set]; exact HBL3.out.len)
         obtain ⟨b6, hb6_⟩ : ∃ b, b = b3.set 156 h.f6 := ⟨_, rfl⟩
         rw [← hb6_] at hk6 HL6
         have HE6 := Aside0.mk hb6_
         have HK6 := Aside0.mk hk6
         have HH6 := Aside0.mk hh6
         have HB6 := Aside0.mk hb6
         clear hk6 hh6 hb6 hb6_ hc6 hold hfro HK HH HB
         go_cut [] from 1 to 0 (fun wx => Aside0 (wx.heap[bb]? = some (.cells (u8c (splice b6 257 (numsL (magicB h.f8)))).toArray 5 (0, 0))) ∧ Aside0 (wx.heap[gh]? = some (.cells cs 31 (0, 0))) ∧ Aside0 (Below w.heap.size w wx))
         case first =>
          have hc8 : w6.cell? ⟨gh, 8, none⟩ = some (.int .i64 h.f8) := (blk_cell HH6.out 8).trans c8_
          have hw3 : h.f8 = 0 ∨ h.f8 = 1 ∨ h.f8 = 2 := by have hh := HFB.out; unfold headFB at hh; simp at hh; omega
          obtain ⟨way, hway⟩ : ∃ x, x = h.f8 := ⟨_, rfl⟩
          rw [← hway] at hc8 hw3
          have HWY := Aside0.mk hway
          have hmag := (HT.out.below HB6.out).cell
          clear hway
          rcases hw3 with rfl | rfl | rfl
          ·have hmg := hmag 0
           refine wp_region_still_tail 6 (by kernel_rfl) (by kernel_rfl) ?_
           simp only [List.take_succ_cons, List.take_zero, List.drop_succ_cons, List.drop_zero]
           refine still_of_quiet _ _ ?_
           repeat (go_big_quiet_step (fail))
           refine wpQuiet_nil ?_
           change wpList _ _ _ _ _ w6.drew
           have hk7 : w6.drew.heap[bb]? = some (.cells (u8c b6).toArray 5 (0, 0)) := HK6.out
           have hh7 : w6.drew.heap[gh]? = some (.cells cs 31 (0, 0)) := HH6.out
           have hb7 := below_drew HB6.out
           generalize w6.drew = w7 at hk7 hh7 hb7 ⊢
           have hcp := Lib.run_copy_row_string (P := Tryz.prog) w7 22 9 3 5 bb 257 255 255 magic0 (u8c b6).toArray 5 Tryz.underlying22 (by kernel_rfl) hk7 (by decide) (by rw [List.size_toArray, u8c_length, HL6.out]; decide)
           rw [copy_str_eq] at hcp
           have hk8 := setRow_same (cells := (u8c (splice b6 257 (numsL magic0))).toArray) hk7
           have hh8 := (setRow_far w7 bb gh (u8c (splice b6 257 (numsL magic0))).toArray (Nat.ne_of_gt HGB.out)).trans hh7
           have hb8 := pw_below_grown hb7 (some bb) hb7.size (grown_setRow w7 bb (u8c (splice b6 257 (numsL magic0))).toArray) (fun k hk => by injection hk with hk; rw [← hk]; exact HBB.out)
           have HK8 := Aside0.mk hk8
           have HH8 := Aside0.mk hh8
           have HB8 := Aside0.mk hb8
           clear hk7 hh7 hb7 hk8 hh8 hb8 hmag
           go_wp2
           go_meet
           exact ⟨⟨by rw [← HWY.out]; exact HK8.out⟩, HH8, HB8⟩
          ·have hmg := hmag 1
           refine wp_region_still_tail 6 (by kernel_rfl) (by kernel_rfl) ?_
           simp only [List.take_succ_cons, List.take_zero, List.drop_succ_cons, List.drop_zero]
           refine still_of_quiet _ _ ?_
           repeat (go_big_quiet_step (fail))
           refine wpQuiet_nil ?_
           change wpList _ _ _ _ _ w6.drew
           have hk7 : w6.drew.heap[bb]? = some (.cells (u8c b6).toArray 5 (0, 0)) := HK6.out
           have hh7 : w6.drew.heap[gh]? = some (.cells cs 31 (0, 0)) := HH6.out
           have hb7 := below_drew HB6.out
           generalize w6.drew = w7 at hk7 hh7 hb7 ⊢
           have hcp := Lib.run_copy_row_string (P := Tryz.prog) w7 22 9 3 5 bb 257 255 255 magic1 (u8c b6).toArray 5 Tryz.underlying22 (by kernel_rfl) hk7 (by decide) (by rw [List.size_toArray, u8c_length, HL6.out]; decide)
           rw [copy_str_eq] at hcp
           have hk8 := setRow_same (cells := (u8c (splice b6 257 (numsL magic1))).toArray) hk7
           have hh8 := (setRow_far w7 bb gh (u8c (splice b6 257 (numsL magic1))).toArray (Nat.ne_of_gt HGB.out)).trans hh7
           have hb8 := pw_below_grown hb7 (some bb) hb7.size (grown_setRow w7 bb (u8c (splice b6 257 (numsL magic1))).toArray) (fun k hk => by injection hk with hk; rw [← hk]; exact HBB.out)
           have HK8 := Aside0.mk hk8
           have HH8 := Aside0.mk hh8
           have HB8 := Aside0.mk hb8
           clear hk7 hh7 hb7 hk8 hh8 hb8 hmag
           go_wp2
           go_meet
           exact ⟨⟨by rw [← HWY.out]; exact HK8.out⟩, HH8, HB8⟩
          ·have hmg := hmag 2
           refine wp_region_still_tail 6 (by kernel_rfl) (by kernel_rfl) ?_
           simp only [List.take_succ_cons, List.take_zero, List.drop_succ_cons, List.drop_zero]
           refine still_of_quiet _ _ ?_
           repeat (go_big_quiet_step (fail))
           refine wpQuiet_nil ?_
           change wpList _ _ _ _ _ w6.drew
           have hk7 : w6.drew.heap[bb]? = some (.cells (u8c b6).toArray 5 (0, 0)) := HK6.out
           have hh7 : w6.drew.heap[gh]? = some (.cells cs 31 (0, 0)) := HH6.out
           have hb7 := below_drew HB6.out
           generalize w6.drew = w7 at hk7 hh7 hb7 ⊢
           have hcp := Lib.run_copy_row_string (P := Tryz.prog) w7 22 9 3 5 bb 257 255 255 magic2 (u8c b6).toArray 5 Tryz.underlying22 (by kernel_rfl) hk7 (by decide) (by rw [List.size_toArray, u8c_length, HL6.out]; decide)
           rw [copy_str_eq] at hcp
           have hk8 := setRow_same (cells := (u8c (splice b6 257 (numsL magic2))).toArray) hk7
           have hh8 := (setRow_far w7 bb gh (u8c (splice b6 257 (numsL magic2))).toArray (Nat.ne_of_gt HGB.out)).trans hh7
           have hb8 := pw_below_grown hb7 (some bb) hb7.size (grown_setRow w7 bb (u8c (splice b6 257 (numsL magic2))).toArray) (fun k hk => by injection hk with hk; rw [← hk]; exact HBB.out)
           have HK8 := Aside0.mk hk8
           have HH8 := Aside0.mk hh8
           have HB8 := Aside0.mk hb8
           clear hk7 hh7 hb7 hk8 hh8 hb8 hmag
           go_wp2
           go_meet
           exact ⟨⟨by rw [← HWY.out]; exact HK8.out⟩, HH8, HB8⟩
         case rest =>
          obtain ⟨HK7, HH7, HB7⟩ := hcut
          clear HK6 HH6 HB6
          have hc15 : wc.cell? ⟨gh, 15, none⟩ = some (.bool h.f15) := (blk_cell HH7.out 15).trans (by rw [HCS.out]; rfl)
          have HL7 := Aside0.mk (show (splice b6 257 (numsL (magicB h.f8))).length = 512 by rw [length_splice _ _ _ (by rw [magic_len, HL6.out]; decide)]; exact HL6.out)
          cases h15 : h.f15 with
          | true =>
           rw [h15] at hc15
           have HFB2 : Aside0 (finB h b3 = (splice b6 257 (numsL (magicB h.f8))).set 482 1) := ⟨by unfold finB; rw [if_pos h15, HE6.out]⟩
           obtain ⟨old2, hold⟩ : ∃ u, wc.cell? ⟨bb, 482, none⟩ = some u := ⟨_, (blk_cell HK7.out 482).trans (Array.getElem?_eq_getElem (by rw [List.size_toArray, u8c_length, HL7.out]; decide))⟩
           have hfro := blk_frozen HK7.out 482
           clear h15
           go_upto_region 30 with (fail)
           have hk9 := blk_put (cs' := (u8c (finB h b3)).toArray) HK7.out 482 (.int .u8 1) (by rw [HFB2.out]; unfold u8c; rw [List.setIfInBounds_toArray, ← List.map_set])
           have HB9 := Aside0.mk (below_set (j := 482) (v := .int .u8 1) HB7.out HBB.out)
           have HSE := Aside0.mk (seal_own _ HFI.out bb _ hk9)
           clear hk9 hc15
           go_wp2_with (go_at_call 68; refine HSE.out.mono ?_; rintro e w9 ⟨v9, rfl, hR9, hb9⟩; have HX := Aside0.mk (pr_ok HPO.out HB9.out hR9 hb9); clear hR9 hb9)
           go_ret
           exact HX.out
          | false =>
           rw [h15] at hc15
           have HFB2 : Aside0 (finB h b3 = splice b6 257 (numsL (magicB h.f8))) := ⟨by unfold finB; rw [if_neg (by rw [h15]; simp), HE6.out]⟩
           clear h15
           have HSE := Aside0.mk (seal_own _ HFI.out bb wc (by rw [HFB2.out]; exact HK7.out))
           go_wp2_with (go_at_call 68; refine HSE.out.mono ?_; rintro e w9 ⟨v9, rfl, hR9, hb9⟩; have HX := Aside0.mk (pr_ok HPO.out HB7.out hR9 hb9); clear hR9 hb9)
           go_ret
           exact HX.out
end Go.Proofs.YtkfcfbggojmfkaaGreatDoor.P
