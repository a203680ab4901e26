/- HeadWays: whether a header without owners may be laid does not hang on its way. -/
import Derived.Test.YtdeolcgabkkocaaDoorHBox
import Derived.Test.YtdeolcgabkkocaaDoorHSame
namespace Go.Proofs.YtdeolcgabkkocaaDoor.P
open Go Go.RowKit Go.Proofs.YtdeolcgabkkocaaDoorW.PrintWords Go.Proofs.YtdeolcgabkkocaaDoorW.PrintLast Go.Proofs.YtdeolcgabkkocaaDoorW.PrintMore
set_option linter.unusedVariables false
set_option linter.unusedSimpArgs false

def mudlarklaw08_HeadWays.Pure : Prop := True
def txtB (h : S25) (t : Nat × Nat × Nat) : Bool := (sputF (txtOf h t.2.2) (t.2.1 : Int)).2
def numB (h : S25) (t : Nat × Nat × Nat × Int × Int) : Bool := decide (okN (numOf h t.2.2.1) t.2.1 t.2.2.2.1 t.2.2.2.2)
def partB (x : S49) : Bool := decide (okN x.f0 12 0 4611686018427387904) && decide (okN x.f1 12 0 4611686018427387904)
theorem textsP_is (h : S25) : ∀ (ts : List (Nat × Nat × Nat)) (b : List Int), (textsP h ts b).isSome = ts.all (txtB h)
  | [], b => rfl
  | t :: ts, b => by
    rw [List.all_cons]
    unfold textsP
    by_cases hc : (sputF (txtOf h t.2.2) (t.2.1 : Int)).2 = true
    · rw [if_pos hc, textsP_is h ts]
      unfold txtB
      rw [hc, Bool.true_and]
    · rw [if_neg hc]
      unfold txtB
      rw [Bool.eq_false_iff.2 hc]
      rfl
theorem numsP_is (h : S25) : ∀ (ts : List (Nat × Nat × Nat × Int × Int)) (b : List Int), (numsP h ts b).isSome = ts.all (numB h)
  | [], b => rfl
  | t :: ts, b => by
    rw [List.all_cons]
    unfold numsP
    by_cases hc : okN (numOf h t.2.2.1) t.2.1 t.2.2.2.1 t.2.2.2.2
    · rw [if_pos hc, numsP_is h ts]
      unfold numB
      rw [decide_eq_true hc, Bool.true_and]
    · rw [if_neg hc]
      unfold numB
      rw [decide_eq_false hc]
      rfl
theorem partsP_is : ∀ (xs : List S49) (i : Nat) (b : List Int), (partsP xs i b).isSome = xs.all partB
  | [], i, b => rfl
  | x :: xs, i, b => by
    rw [List.all_cons]
    unfold partsP
    by_cases hc : okN x.f0 12 0 4611686018427387904
    · by_cases hd : okN x.f1 12 0 4611686018427387904
      · rw [if_pos hc, if_pos hd, partsP_is xs]
        unfold partB
        rw [decide_eq_true hc, decide_eq_true hd]
        rfl
      · rw [if_pos hc, if_neg hd]
        unfold partB
        rw [decide_eq_true hc, decide_eq_false hd]
        rfl
    · rw [if_neg hc]
      unfold partB
      rw [decide_eq_false hc]
      rfl
def errN (h : S25) : Int :=
  if headKB h = false then 31 else if (textsL 1).all (txtB h) = false then 33 else if headFB h = false then 32 else if (numbersL h.f8 h.f6).all (numB h) = false then 32 else if h.f14.all partB = false then 32 else 0
theorem printN_errN (h : S25) : printN h = errN h := by
  unfold printN errN printO
  by_cases h1 : headKB h = false
  · rw [if_pos h1, if_pos h1]
  · rw [if_neg h1, if_neg h1]
    rw [← textsP_is h (textsL 1) (List.replicate 512 0)]
    cases textsP h (textsL 1) (List.replicate 512 0) with
    | none => rfl
    | some b =>
      simp only [Option.isSome_some, Bool.true_eq_false, if_false]
      by_cases h2 : headFB h = false
      · rw [if_pos h2, if_pos h2]
      · rw [if_neg h2, if_neg h2]
        rw [← numsP_is h (numbersL h.f8 h.f6) b]
        cases numsP h (numbersL h.f8 h.f6) b with
        | none => rfl
        | some c =>
          simp only [Option.isSome_some, Bool.true_eq_false, if_false]
          rw [← partsP_is h.f14 0 c]
          cases partsP h.f14 0 c with
          | none => rfl
          | some d => rfl
def base5 : List (Nat × Nat × Nat × Int × Int) := [(100, 8, 1, 0, 4611686018427387904), (108, 8, 2, 0, 4611686018427387904), (116, 8, 3, 0, 4611686018427387904), (124, 12, 4, 0, 1099511627776), (136, 12, 5, -4611686018427387904, 4611686018427387904)]
def errY (h : S25) : Int :=
  if knownB h.f6 = false then 31 else if (textsL 1).all (txtB h) = false then 33 else if (bareS h && decide (h.f14.length ≤ 4) && !(h.f14.any zeroPart)) = false then 32 else if base5.all (numB h) = false then 32 else if h.f14.all partB = false then 32 else 0
theorem errN_way (h : S25) (a : Int) (ha : a = 0 ∨ a = 1 ∨ a = 2) (h6 : ¬ h.f6 = 83) (h9 : h.f9.toList = []) (h10 : h.f10.toList = []) (h13 : h.f13.toList = []) (h11 : h.f11 = 0) (h12 : h.f12 = 0) :
    errN { h with f8 := a } = errY h := by
  have e1 : headKB { h with f8 := a } = knownB h.f6 := by
    unfold headKB
    show (knownB h.f6 && (!(h.f6 == 83) || (a == 2))) = knownB h.f6
    rw [beq_eq_false_iff_ne.2 h6]
    simp
  have e2 : (textsL 1).all (txtB { h with f8 := a }) = (textsL 1).all (txtB h) := rfl
  have e3 : headFB { h with f8 := a } = (bareS h && decide (h.f14.length ≤ 4) && !(h.f14.any zeroPart)) := by
    have hs : bareS { h with f8 := a } = bareS h := rfl
    unfold headFB bareB bareV bareP noneS
    rw [hs]
    simp only [h9, h10, h11, h12, h13]
    rcases ha with rfl | rfl | rfl <;> simp
  have e4 : (numbersL a h.f6).all (numB { h with f8 := a }) = base5.all (numB h) := by
    have hz : numB { h with f8 := a } (329, 8, 11, 0, 4611686018427387904) = true ∧ numB { h with f8 := a } (337, 8, 12, 0, 4611686018427387904) = true := by
      refine ⟨?_, ?_⟩
      · show decide (okN h.f11 8 0 4611686018427387904) = true
        rw [h11]
        decide +kernel
      · show decide (okN h.f12 8 0 4611686018427387904) = true
        rw [h12]
        decide +kernel
    have hb : base5.all (numB { h with f8 := a }) = base5.all (numB h) := rfl
    unfold numbersL
    rw [if_neg h6]
    show ((base5 ++ if a = 0 then [] else _) ++ []).all _ = _
    rw [List.append_nil, List.all_append, hb]
    by_cases h0 : a = 0
    · rw [if_pos h0]; simp
    · rw [if_neg h0]; simp [hz.1, hz.2]
  unfold errN errY
  rw [e1, e2, e3]
  show (if knownB h.f6 = false then (31 : Int) else if (textsL 1).all (txtB h) = false then 33 else if (bareS h && decide (h.f14.length ≤ 4) && !(h.f14.any zeroPart)) = false then 32 else if (numbersL a h.f6).all (numB { h with f8 := a }) = false then 32 else if h.f14.all partB = false then 32 else 0) = _
  rw [e4]
theorem printN_ways (h : S25) (a b : Int) (ha : a = 0 ∨ a = 1 ∨ a = 2) (hb : b = 0 ∨ b = 1 ∨ b = 2) (h6 : ¬ h.f6 = 83) (h9 : h.f9.toList = []) (h10 : h.f10.toList = []) (h13 : h.f13.toList = []) (h11 : h.f11 = 0) (h12 : h.f12 = 0) :
    printN { h with f8 := a } = printN { h with f8 := b } := by
  rw [printN_errN, printN_errN, errN_way h a ha h6 h9 h10 h13 h11 h12, errN_way h b hb h6 h9 h10 h13 h11 h12]
theorem print_err {h : S25} {n : Int} (e : printO h = .err n) : (n != 0) = true := by
  unfold printO at e
  repeat' split at e
  all_goals first | (injection e with e; rw [← e]; rfl) | cases e
theorem parseN_nil : parseN [] = 21 := by
  unfold parseN parseH
  rw [if_pos (by simp)]
theorem Same_hdr {h : S25} {A B : Option Addr} {n ca cb : Nat} {w : World} {cs ct : Array Value} (hA : Kd.C k49 w A h.f14.length h.f14) (hB : Kd.C k49 w B h.f14.length h.f14) (hn : h.f14.length = n) (hca : n ≤ ca) (hcb : n ≤ cb) (hs : Hdr h (.slice A n ca) cs) (ht : Hdr h (.slice B n cb) ct) :
    Calls Tryd.prog 13 #[.agg cs, .agg ct] w fun e w' => e = .returned (.bool true) ∧ Below w.heap.size w w' := by
  obtain ⟨f0, f1, f2, f3, f4, f5, f6, f7, f8, f9, f10, f11, f12, f13, f14, f15, f16⟩ := h
  exact Same_refl f0 f1 f2 f3 f4 f5 f6 f7 f8 f9 f10 f11 f12 f13 f14 f15 f16 n A B ca cb w cs ct hA hB hn hca hcb hs ht
theorem e_list : (⟨#[]⟩ : ByteArray).toList = [] := by decide +kernel
set_option maxRecDepth 100000 in
set_option maxHeartbeats 8000000 in
theorem mudlarklaw08_HeadWays.walks (A0 : Option Addr) (c0 : Nat) (l0 : List Int) (a1 : Int) (w : World) (hr0 : Kd.C (Kd.int .u8) w A0 l0.length l0) (hc0 : l0.length ≤ c0) (hb0 : Bytes l0) (h1 : 0 ≤ a1 ∧ a1 < 256) (HT_ : Tabs w) :
    Calls Tryd.prog 3 #[.slice A0 l0.length c0, .int .u8 a1] w fun e w' => e = .returned (.bool true) ∧ Below w.heap.size w w' := by
  have HT := Aside0.mk HT_
  have HLK := Aside0.mk law_known_calls
  have HHC := Aside0.mk (Header_calls A0 c0 l0 w hr0 hc0 hb0)
  obtain ⟨n1, hn1, hl1⟩ := tmod_nat a1 h1.1 3 (by decide)
  have HN1 := Aside0.mk hl1
  have hz1 : IntKind.i64.wrap (n1 : Int) = (n1 : Int) := by rw [i64_w]; exact wrap64_id _ (by omega) (by omega)
  clear hr0 hc0 hb0 h1 hl1 HT_
  go_enter Tryd.func3, Tryd.ntmps3
  go_upto_region 2 with (first | (go_at_call 8; refine HHC.out.mono ?_; rintro e w1 ⟨h0, v0, cs, HOK, HCS, rfl, HR1, hb1⟩; have HB1 := Aside0.mk hb1; clear hb1) | (refine wpList_store_rowTo rfl 25 _ _ rfl rfl w1.heap.size cs rfl rfl 25 zeroH (row2_alloc w1 zeroH 25) (by rw [HCS.out.size]; kernel_rfl) (by rw [HCS.out.size]; rfl) (HCS.out.one (Kd.R_val HR1.out).2) ?_))
  have H1 := Aside0.mk (HB.box HCS.out HR1.out HB1.out)
  change Code.wp _ _ _ _ ((w1.alloc (.cells zeroH 25)).setRow w1.heap.size cs)
  generalize (w1.alloc (.cells zeroH 25)).setRow w1.heap.size cs = w2 at H1 ⊢
  generalize w1.heap.size = g at H1 ⊢
  clear HCS HR1 HB1 HHC
  have c6 := H1.out.c6
  by_cases h83 : h0.f6 = 83
  · have e83 : (h0.f6 == 83) = true := beq_iff_eq.2 h83
    clear h83
    go_wp2_with (go_at_call 9; refine (HLK.out _ (HT.out.below H1.out.b)).mono ?_; rintro e w8 ⟨rfl, hb8⟩; have HB8 := Aside0.mk (below_step H1.out.b hb8); clear hb8)
    go_ret
    exact ⟨rfl, HB8.out⟩
  have e83 : (h0.f6 == 83) = false := beq_eq_false_iff_ne.2 h83
  have H83 := Aside0.mk h83
  clear h83
  go_upto_region 4 with (fail)
  clear c6
  have c_ := H1.out.c9
  have y_ := blk_frozen H1.out.bk 9
  go_upto_region 5 with (fail)
  have H2 := Aside0.mk (H1.out.set (h' := ({ h0 with f9 := ⟨#[]⟩ } : S25)) 9 (.string ⟨#[]⟩) rfl rfl)
  generalize World.setCell _ _ _ = w3 at H2 ⊢
  clear c_ y_ H1
  have c_ := H2.out.c10
  have y_ := blk_frozen H2.out.bk 10
  go_upto_region 6 with (fail)
  have H3 := Aside0.mk (H2.out.set (h' := ({ ({ h0 with f9 := ⟨#[]⟩ } : S25) with f10 := ⟨#[]⟩ } : S25)) 10 (.string ⟨#[]⟩) rfl rfl)
  generalize World.setCell _ _ _ = w3 at H3 ⊢
  clear c_ y_ H2
  have c_ := H3.out.c11
  have y_ := blk_frozen H3.out.bk 11
  go_upto_region 7 with (fail)
  have H4 := Aside0.mk (H3.out.set (h' := ({ ({ ({ h0 with f9 := ⟨#[]⟩ } : S25) with f10 := ⟨#[]⟩ } : S25) with f11 := 0 } : S25)) 11 (.int .i64 0) rfl rfl)
  generalize World.setCell _ _ _ = w3 at H4 ⊢
  clear c_ y_ H3
  have c_ := H4.out.c12
  have y_ := blk_frozen H4.out.bk 12
  go_upto_region 8 with (fail)
  have H5 := Aside0.mk (H4.out.set (h' := ({ ({ ({ ({ h0 with f9 := ⟨#[]⟩ } : S25) with f10 := ⟨#[]⟩ } : S25) with f11 := 0 } : S25) with f12 := 0 } : S25)) 12 (.int .i64 0) rfl rfl)
  generalize World.setCell _ _ _ = w3 at H5 ⊢
  clear c_ y_ H4
  have c_ := H5.out.c13
  have y_ := blk_frozen H5.out.bk 13
  go_upto_region 9 with (fail)
  have H6 := Aside0.mk (H5.out.set (h' := ({ ({ ({ ({ ({ h0 with f9 := ⟨#[]⟩ } : S25) with f10 := ⟨#[]⟩ } : S25) with f11 := 0 } : S25) with f12 := 0 } : S25) with f13 := ⟨#[]⟩ } : S25)) 13 (.string ⟨#[]⟩) rfl rfl)
  generalize World.setCell _ _ _ = w3 at H6 ⊢
  clear c_ y_ H5
  obtain ⟨hh, hE⟩ : ∃ h, h = (({ ({ ({ ({ ({ h0 with f9 := ⟨#[]⟩ } : S25) with f10 := ⟨#[]⟩ } : S25) with f11 := 0 } : S25) with f12 := 0 } : S25) with f13 := ⟨#[]⟩ } : S25) : S25) := ⟨_, rfl⟩
  rw [← hE] at H6
  have HE : Aside0 (¬ hh.f6 = 83 ∧ hh.f9.toList = [] ∧ hh.f10.toList = [] ∧ hh.f13.toList = [] ∧ hh.f11 = 0 ∧ hh.f12 = 0 ∧ 0 ≤ hh.f8 ∧ hh.f8 ≤ 2) := ⟨by rw [hE]; exact ⟨H83.out, e_list, e_list, e_list, rfl, rfl, HOK.out.way⟩⟩
  clear hE H83 HOK
  obtain ⟨A14, c14, rfl⟩ := Kd.R_slice H6.out.r
  have HPW := Aside0.mk (printN_ways hh hh.f8 (n1 : Int) (by have := HE.out; omega) (by have := HN1.out; omega) HE.out.1 HE.out.2.1 HE.out.2.2.1 HE.out.2.2.2.1 HE.out.2.2.2.2.1 HE.out.2.2.2.2.2.1)
  have HPP := Aside0.mk (Print_calls hh A14 c14 w3 (Kd.R_reads' H6.out.r).2.2 (Kd.R_reads' H6.out.r).2.1 (HT.out.below H6.out.b))
  obtain ⟨cs, hcs⟩ : ∃ c, c = cells25 hh (.slice A14 hh.f14.length c14) := ⟨_, rfl⟩
  have HD := Aside0.mk (show Hdr hh (.slice A14 hh.f14.length c14) cs from ⟨hcs⟩)
  have HBK := Aside0.mk (show w3.heap[g]? = some (.cells cs 25 (0, 0)) by rw [hcs]; exact H6.out.bk)
  rw [← hcs] at HPP
  clear hcs HE
  go_upto_region 10 with (first | (refine wpList_load_row rfl 25 _ rfl g rfl 25 cs (0, 0) _ HBK.out Tryd.underlying25 rfl (by rw [HD.out.size]; kernel_rfl) ?_) | (go_at_call 10; refine HPP.out.mono ?_; rintro e w4 ⟨v5, rfl, hR5, hb5⟩; obtain ⟨A5, c5, rfl⟩ := Kd.R_slice hR5; have H7 := Aside0.mk (H6.out.below hb5); clear hb5 hR5))
  have c8 := H7.out.c8
  have y8 := blk_frozen H7.out.bk 8
  go_upto_region 11 with (fail)
  obtain ⟨h2, hE2⟩ : ∃ h, h = ({ hh with f8 := (n1 : Int) } : S25) := ⟨_, rfl⟩
  have H8 := Aside0.mk (H7.out.set (h' := h2) 8 (.int .i64 (n1 : Int)) (by rw [hE2]; rfl) (by rw [hE2]))
  generalize World.setCell _ _ _ = w5 at H8 ⊢
  have e14 : h2.f14 = hh.f14 := by rw [hE2]
  have e8 : h2.f8 = (n1 : Int) := by rw [hE2]
  have hpw : printN hh = printN h2 := by rw [hE2]; exact HPW.out
  rw [← e14] at H8
  have HPP2 := Aside0.mk (Print_calls h2 A14 c14 w5 (Kd.R_reads' H8.out.r).2.2 (Kd.R_reads' H8.out.r).2.1 (HT.out.below H8.out.b))
  obtain ⟨cs2, hcs2⟩ : ∃ c, c = cells25 h2 (.slice A14 h2.f14.length c14) := ⟨_, rfl⟩
  have HD2 := Aside0.mk (show Hdr h2 (.slice A14 h2.f14.length c14) cs2 from ⟨hcs2⟩)
  have HBK2 := Aside0.mk (show w5.heap[g]? = some (.cells cs2 25 (0, 0)) by rw [hcs2]; exact H8.out.bk)
  rw [← hcs2] at HPP2
  clear hcs2 hE2 e14 HPW HPP HBK HD H7 c8 y8 H6
  rw [hpw]
  obtain ⟨la, hla⟩ : ∃ x, x = printL hh := ⟨_, rfl⟩
  have hla0 : ¬ printN h2 = 0 → la = [] := by
    rw [← hpw, hla]
    unfold printN printL
    cases printO hh with
    | err m => intro _; rfl
    | ok l' => intro h; exact absurd rfl h
  rw [← hla]
  clear hla hpw
  cases hO : printO h2 with
  | err m =>
    have hl0 : printL h2 = [] := by unfold printL; rw [hO]
    have hm0 : printN h2 = m := by unfold printN; rw [hO]
    have q0 : (m != 0) = true := print_err hO
    have hla1 := hla0 (by rw [hm0]; exact bne_iff_ne.1 q0)
    subst hla1
    rw [hl0, hm0] at HPP2
    rw [hm0]
    have qm : (m != m) = false := bne_self_eq_false m
    clear hO hl0 hm0 hla0
    go_upto_region 12 with (first | (refine wpList_load_row rfl 25 _ rfl g rfl 25 cs2 (0, 0) _ HBK2.out Tryd.underlying25 rfl (by rw [HD2.out.size]; kernel_rfl) ?_) | (go_at_call 10; refine HPP2.out.mono ?_; rintro e w6 ⟨v7, rfl, hR7, hb7⟩; obtain ⟨A7, c7, rfl⟩ := Kd.R_slice hR7; have H9 := Aside0.mk (H8.out.below hb7); have HR7 := Aside0.mk (Kd.R_reads' hR7).2; clear hb7 hR7))
    have HPA := Aside0.mk (Parse_as A7 ([] : List Int).length c7 [] 21 _ w6 HR7.out.2 rfl HR7.out.1 (fun x hx => by cases hx) (HT.out.below H9.out.b) parseN_nil rfl)
    go_upto_region 13 with (first | (go_at_call 11; refine HPA.out.mono ?_; rintro e w8 ⟨v15, ct, HCT, rfl, HR8, hb8⟩; have H10 := Aside0.mk (H9.out.below hb8); have HC8 := Aside0.mk (Kd.C_below HR7.out.2 hb8); clear hb8) | (refine wpList_store_rowTo rfl 25 _ _ rfl rfl w8.heap.size ct rfl rfl 25 zeroH (row2_alloc w8 zeroH 25) (by rw [HCT.out.size]; kernel_rfl) (by rw [HCT.out.size]; rfl) (HCT.out.one (Kd.R_val HR8.out).2) ?_))
    have hbx := box_hdr w8 ct
    have H11 := Aside0.mk (H10.out.below hbx.2)
    have HC11 := Aside0.mk (Kd.C_below HC8.out hbx.2)
    have HR11 := Aside0.mk (Kd.R_below HR8.out hbx.2)
    have HBT := Aside0.mk hbx.1
    change Code.wp _ _ _ _ ((w8.alloc (.cells zeroH 25)).setRow w8.heap.size ct)
    generalize (w8.alloc (.cells zeroH 25)).setRow w8.heap.size ct = w9 at H11 HC11 HR11 HBT ⊢
    generalize w8.heap.size = g9 at HBT ⊢
    have HBW := Aside0.mk H11.out.b
    clear hbx HPA H10 HC8 HR8 H9
    go_wp2_with (first | (go_at_call 9; refine (HLK.out _ (HT.out.below HBW.out)).mono ?_; rintro e w11 ⟨rfl, hb11⟩; have HB11 := Aside0.mk (below_step HBW.out hb11); clear hb11))
    go_ret
    exact ⟨rfl, HB11.out⟩
  | ok l =>
    obtain ⟨b1, b2, b3, p⟩ := pr_inv hO
    have HLN := Aside0.mk p.length
    have HBY := Aside0.mk p.bytes
    have HWF := Aside0.mk p.wayF
    have HPB := Aside0.mk (parse_back hO)
    rw [(printL_ok hO).1, (printL_ok hO).2] at HPP2
    rw [(printL_ok hO).2]
    clear p hO hla0
    go_upto_region 12 with (first | (refine wpList_load_row rfl 25 _ rfl g rfl 25 cs2 (0, 0) _ HBK2.out Tryd.underlying25 rfl (by rw [HD2.out.size]; kernel_rfl) ?_) | (go_at_call 10; refine HPP2.out.mono ?_; rintro e w6 ⟨v7, rfl, hR7, hb7⟩; obtain ⟨A7, c7, rfl⟩ := Kd.R_slice hR7; have H9 := Aside0.mk (H8.out.below hb7); have HR7 := Aside0.mk (Kd.R_reads' hR7).2; clear hb7 hR7))
    have HPA := Aside0.mk (Parse_as A7 l.length c7 l 0 h2 w6 HR7.out.2 rfl HR7.out.1 HBY.out (HT.out.below H9.out.b) HPB.out.2 HPB.out.1)
    go_upto_region 13 with (first | (go_at_call 11; refine HPA.out.mono ?_; rintro e w8 ⟨v15, ct, HCT, rfl, HR8, hb8⟩; have H10 := Aside0.mk (H9.out.below hb8); have HC8 := Aside0.mk (Kd.C_below HR7.out.2 hb8); clear hb8) | (refine wpList_store_rowTo rfl 25 _ _ rfl rfl w8.heap.size ct rfl rfl 25 zeroH (row2_alloc w8 zeroH 25) (by rw [HCT.out.size]; kernel_rfl) (by rw [HCT.out.size]; rfl) (HCT.out.one (Kd.R_val HR8.out).2) ?_))
    have hbx := box_hdr w8 ct
    have H11 := Aside0.mk (H10.out.below hbx.2)
    have HC11 := Aside0.mk (Kd.C_below HC8.out hbx.2)
    have HR11 := Aside0.mk (Kd.R_below HR8.out hbx.2)
    have HBT := Aside0.mk hbx.1
    change Code.wp _ _ _ _ ((w8.alloc (.cells zeroH 25)).setRow w8.heap.size ct)
    generalize (w8.alloc (.cells zeroH 25)).setRow w8.heap.size ct = w9 at H11 HC11 HR11 HBT ⊢
    generalize w8.heap.size = g9 at HBT ⊢
    have HBW := Aside0.mk H11.out.b
    clear hbx HPA H10 HC8 HR8 H9
    obtain ⟨B14, d14, rfl⟩ := Kd.R_slice HR11.out
    have HSM := Aside0.mk (fun (W : World) (hb : Below w9.heap.size w9 W) => Same_hdr (cs := ct) (ct := cs2) (Kd.R_reads' (Kd.R_below HR11.out hb)).2.2 (Kd.R_reads' (H11.out.below hb).r).2.2 rfl (Kd.R_reads' HR11.out).2.1 (Kd.R_reads' H11.out.r).2.1 HCT.out HD2.out)
    have HWC := Aside0.mk (head_Way.calls A7 c7 l h2.f8 true w9 HC11.out HR7.out.1 (by rw [← HWF.out]; rfl) (HT.out.below H11.out.b))
    go_upto_region 17 with (fail)
    go_upto_region 18 with (first | (go_at_call 12; refine HWC.out.mono ?_; rintro e w10 ⟨rfl, hb10⟩; have HV := Aside0.mk hb10; have HBV := Aside0.mk (below_step HBW.out hb10); clear hb10))
    go_wp2_with (first | (go_at_call 9; refine (HLK.out _ (HT.out.below HBV.out)).mono ?_; rintro e w11 ⟨rfl, hb11⟩; have HU := Aside0.mk (below_step HV.out hb11); have HB11 := Aside0.mk (below_step HBV.out hb11); clear hb11) | (refine gate_guard (by rfl) ?_; refine wpList_load_row rfl 25 _ rfl g9 rfl 25 ct (0, 0) _ (blk_below HBT.out HU.out) Tryd.underlying25 rfl (by rw [HCT.out.size]; kernel_rfl) ?_) | (refine gate_guard (by rfl) ?_; refine wpList_load_row rfl 25 _ rfl g rfl 25 cs2 (0, 0) _ (by rw [HD2.out.eq]; exact (H11.out.below HU.out).bk) Tryd.underlying25 rfl (by rw [HD2.out.size]; kernel_rfl) ?_) | (go_at_call 13; refine (HSM.out _ HU.out).mono ?_; rintro e w12 ⟨rfl, hb12⟩; have HB12 := Aside0.mk (below_step HB11.out hb12); have c8 := (H11.out.below (below_step HU.out hb12)).c8; rw [e8] at c8; clear hb12))
    go_ret
    exact ⟨rfl, HB12.out⟩
theorem mudlarklaw08_HeadWays.walk (P : mudlarklaw08_HeadWays.Pure) (a0 : Option Addr) (len0 cap0 : Nat) (z0 : List Int) (a1 : Int) (w : World) (w0 : (a0 = none ∧ len0 = 0 ∧ cap0 = 0 ∧ z0 = []) ∨ ∃ x, a0 = some x ∧ len0 ≤ cap0 ∧ cap0 ≤ maxLen ∧ z0.length = cap0 ∧ (∀ i, i < z0.length → w.cell? (x.add i) = some (.int .u8 (z0.getD i 0))) ∧ ∀ n ∈ z0, (Lit.int .u8 n).wf = true) (y0 : len0 * 1 ≤ 140737488351232) (w1 : (Lit.int .u8 a1).wf = true) (HT_ : Tabs w) :
    Calls Tryd.prog 3 #[.slice a0 len0 cap0, .int .u8 a1] w fun e w' => e = .returned (.bool true) ∧ Below w.heap.size w w' := by
  obtain ⟨l0, rfl, hr0, hm0, hw0, hc0⟩ := ReadsInt.ofRowC w0
  have h1 : 0 ≤ a1 ∧ a1 ≤ 255 := by simpa [Lit.wf, IntKind.min, IntKind.max, IntKind.signed, IntKind.bits] using w1
  exact mudlarklaw08_HeadWays.walks _ _ l0 a1 w (Kd.C_of_reads (d := (0 : Int)) (h1 := fun _ => rfl) hr0) hc0 (bytes_of_wf hw0) ⟨h1.1, by omega⟩ HT_
end Go.Proofs.YtdeolcgabkkocaaDoor.P
