/- HeadBack walked: it is true for every choice. Its condition: head.magic holds what its text lays. -/
import Derived.Test.YtdeolcgabkkocaaDoorHSame
import Derived.Test.YtdeolcgabkkocaaDoorHBox
import Derived.Test.YtdeolcgabkkocaaDoorHRef8
namespace Go.Proofs.YtdeolcgabkkocaaDoor.P
open Go Go.RowKit Go.Proofs.YtdeolcgabkkocaaDoorW.PrintWords Go.Proofs.YtdeolcgabkkocaaDoorW.PrintLast Go.Proofs.YtdeolcgabkkocaaDoorW.PrintMore
set_option linter.unusedVariables false
set_option linter.unusedSimpArgs false

def mudlarklaw08_HeadBack.Pure : Prop := True
theorem print_err {h : S25} {n : Int} (e : printO h = .err n) : (n != 0) = true := by
  unfold printO at e
  repeat' split at e
  all_goals first | (injection e with e; rw [← e]; rfl) | cases e
theorem Same_hdr {h : S25} {A B : Option Addr} {n ca cb : Nat} {w : World} {cs ct : Array Value} (hA : Kd.C k49 w A h.f14.length h.f14) (hB : Kd.C k49 w B h.f14.length h.f14) (hn : h.f14.length = n) (hca : n ≤ ca) (hcb : n ≤ cb) (hs : Hdr h (.slice A n ca) cs) (ht : Hdr h (.slice B n cb) ct) :
    Calls Tryd.prog 13 #[.agg cs, .agg ct] w fun e w' => e = .returned (.bool true) ∧ Below w.heap.size w w' := by
  obtain ⟨f0, f1, f2, f3, f4, f5, f6, f7, f8, f9, f10, f11, f12, f13, f14, f15, f16⟩ := h
  exact Same_refl f0 f1 f2 f3 f4 f5 f6 f7 f8 f9 f10 f11 f12 f13 f14 f15 f16 n A B ca cb w cs ct hA hB hn hca hcb hs ht
theorem ref_right_calls (A : Option Addr) (n c : Nat) (l : List Int) (w : World) (hC : Kd.C (Kd.int .u8) w A l.length l) (hn : l.length = n) (hc : n ≤ c) (hb : Bytes l) (hl : l.length ≤ 100000) (hr : rightF l = true) :
    Calls Tryd.prog 17 #[.slice A n c] w fun e w' => e = .returned (.bool true) ∧ Below w.heap.size w w' := by
  subst hn
  obtain ⟨k, hk⟩ := RefRight_eq l hb hl
  have := hk k (Nat.le_refl _)
  rw [hr] at this
  exact (mudlarkref05_Right.calls k A c l true w hC hc this).mono fun e w' ⟨he, hd⟩ => ⟨he, drawn_below hd⟩
set_option maxRecDepth 100000 in
set_option maxHeartbeats 8000000 in
theorem mudlarklaw08_HeadBack.walks (A0 : Option Addr) (c0 : Nat) (l0 : List Int) (w : World) (hr0 : Kd.C (Kd.int .u8) w A0 l0.length l0) (hc0 : l0.length ≤ c0) (hb0 : Bytes l0) (HT_ : Tabs w) :
    Calls Tryd.prog 6 #[.slice A0 l0.length c0] w fun e w' => e = .returned (.bool true) ∧ Below w.heap.size w w' := by
  have HT := Aside0.mk HT_
  have HLK := Aside0.mk law_known_calls
  have HHC := Aside0.mk (Header_calls A0 c0 l0 w hr0 hc0 hb0)
  clear hr0 hc0 hb0 HT_
  go_enter Tryd.func6, Tryd.ntmps6
  go_upto_region 2 with (first | (go_at_call 8; refine HHC.out.mono ?_; rintro e w1 ⟨h0, v0, cs, HOK, HCS, rfl, HR1, hb1⟩; have HB1 := Aside0.mk hb1; clear hb1) | (refine wpList_store_rowTo rfl 25 _ _ rfl rfl w1.heap.size cs rfl rfl 25 zeroH (row2_alloc w1 zeroH 25) (by rw [HCS.out.size]; kernel_rfl) (by rw [HCS.out.size]; rfl) (HCS.out.one (Kd.R_val HR1.out).2) ?_))
  have H1 := Aside0.mk (HB.box HCS.out HR1.out HB1.out)
  change Code.wp _ _ _ _ ((w1.alloc (.cells zeroH 25)).setRow w1.heap.size cs)
  generalize (w1.alloc (.cells zeroH 25)).setRow w1.heap.size cs = w3 at H1 ⊢
  generalize w1.heap.size = g at H1 ⊢
  clear HR1 HB1 HHC
  obtain ⟨A14, c14, rfl⟩ := Kd.R_slice H1.out.r
  have HPP := Aside0.mk (Print_calls h0 A14 c14 w3 (Kd.R_reads' H1.out.r).2.2 (Kd.R_reads' H1.out.r).2.1 (HT.out.below H1.out.b))
  have HBK := Aside0.mk (show w3.heap[g]? = some (.cells cs 25 (0, 0)) by rw [HCS.out.eq]; exact H1.out.bk)
  rw [← HCS.out.eq] at HPP
  cases hO : printO h0 with
  | err m =>
    have hl0 : printL h0 = [] := by unfold printL; rw [hO]
    have hm0 : printN h0 = m := by unfold printN; rw [hO]
    rw [hl0, hm0] at HPP
    have q0 : (m != 0) = true := print_err hO
    clear hO hl0 hm0
    go_wp2_with (first | (refine wpList_load_row rfl 25 _ rfl g rfl 25 cs (0, 0) _ HBK.out Tryd.underlying25 rfl (by rw [HCS.out.size]; kernel_rfl) ?_) | (go_at_call 10; refine HPP.out.mono ?_; rintro e w4 ⟨v5, rfl, hR5, hb5⟩; obtain ⟨A5, c5, rfl⟩ := Kd.R_slice hR5; have HB5 := Aside0.mk (below_step H1.out.b hb5); clear hb5 hR5) | (go_at_call 9; refine (HLK.out _ (HT.out.below HB5.out)).mono ?_; rintro e w8 ⟨rfl, hb8⟩; have HB8 := Aside0.mk (below_step HB5.out hb8); clear hb8))
    go_ret
    exact ⟨rfl, HB8.out⟩
  | ok l =>
    obtain ⟨b1, b2, b3, p⟩ := pr_inv hO
    have HLN := Aside0.mk p.length
    have HBY := Aside0.mk p.bytes
    have HRI := Aside0.mk p.right
    have HPB := Aside0.mk (parse_back hO)
    rw [(printL_ok hO).1, (printL_ok hO).2] at HPP
    clear p hO
    go_upto_region 3 with (first | (refine wpList_load_row rfl 25 _ rfl g rfl 25 cs (0, 0) _ HBK.out Tryd.underlying25 rfl (by rw [HCS.out.size]; kernel_rfl) ?_) | (go_at_call 10; refine HPP.out.mono ?_; rintro e w4 ⟨v5, rfl, hR5, hb5⟩; obtain ⟨A5, c5, rfl⟩ := Kd.R_slice hR5; have H5 := Aside0.mk (H1.out.below hb5); have HR5 := Aside0.mk (Kd.R_reads' hR5).2; clear hb5 hR5))
    have HPA := Aside0.mk (Parse_as A5 l.length c5 l 0 h0 w4 HR5.out.2 rfl HR5.out.1 HBY.out (HT.out.below H5.out.b) HPB.out.2 HPB.out.1)
    go_upto_region 6 with (first | (go_at_call 11; refine HPA.out.mono ?_; rintro e w6 ⟨v15, ct, HCT, rfl, HR6, hb6⟩; have H6 := Aside0.mk (H5.out.below hb6); have HC6 := Aside0.mk (Kd.C_below HR5.out.2 hb6); clear hb6) | (refine wpList_store_rowTo rfl 25 _ _ rfl rfl w6.heap.size ct rfl rfl 25 zeroH (row2_alloc w6 zeroH 25) (by rw [HCT.out.size]; kernel_rfl) (by rw [HCT.out.size]; rfl) (HCT.out.one (Kd.R_val HR6.out).2) ?_))
    have hbx := box_hdr w6 ct
    have H7 := Aside0.mk (H6.out.below hbx.2)
    have HC7 := Aside0.mk (Kd.C_below HC6.out hbx.2)
    have HR7 := Aside0.mk (Kd.R_below HR6.out hbx.2)
    have HBT := Aside0.mk hbx.1
    change Code.wp _ _ _ _ ((w6.alloc (.cells zeroH 25)).setRow w6.heap.size ct)
    generalize (w6.alloc (.cells zeroH 25)).setRow w6.heap.size ct = w7 at H7 HC7 HR7 HBT ⊢
    generalize w6.heap.size = g7 at HBT ⊢
    obtain ⟨B14, d14, rfl⟩ := Kd.R_slice HR7.out
    have HBK7 := Aside0.mk (show w7.heap[g]? = some (.cells cs 25 (0, 0)) by rw [HCS.out.eq]; exact H7.out.bk)
    have HSM := Aside0.mk (Same_hdr (Kd.R_reads' H7.out.r).2.2 (Kd.R_reads' HR7.out).2.2 rfl (Kd.R_reads' H7.out.r).2.1 (Kd.R_reads' HR7.out).2.1 HCS.out HCT.out)
    have HL5 := Aside0.mk HR5.out.1
    clear hbx HPA H6 HC6 HR6 H5 HR5 HPP
    have e512 : ((l.length : Int) == 512) = true := by rw [HLN.out]; rfl
    go_upto_region 7 with (first | (refine wpList_load_row rfl 25 _ rfl g rfl 25 cs (0, 0) _ HBK7.out Tryd.underlying25 rfl (by rw [HCS.out.size]; kernel_rfl) ?_) | (refine wpList_load_row rfl 25 _ rfl g7 rfl 25 ct (0, 0) _ HBT.out Tryd.underlying25 rfl (by rw [HCT.out.size]; kernel_rfl) ?_) | (go_at_call 13; refine HSM.out.mono ?_; rintro e w8 ⟨rfl, hb8⟩; have H8 := Aside0.mk (below_step H7.out.b hb8); have HC8 := Aside0.mk (Kd.C_below HC7.out hb8); clear hb8))
    go_wp2_with (first | (go_at_call 9; refine (HLK.out _ (HT.out.below H8.out)).mono ?_; rintro e w9 ⟨rfl, hb9⟩; have H9 := Aside0.mk (below_step H8.out hb9); have HC9 := Aside0.mk (Kd.C_below HC8.out hb9); clear hb9) | (go_at_call 17; refine (ref_right_calls A5 l.length c5 l _ HC9.out rfl HL5.out HBY.out (by have := HLN.out; omega) HRI.out).mono ?_; rintro e w10 ⟨rfl, hb10⟩; have H10 := Aside0.mk (below_step H9.out hb10); clear hb10))
    go_ret
    exact ⟨rfl, H10.out⟩
theorem mudlarklaw08_HeadBack.walk (P : mudlarklaw08_HeadBack.Pure) (a0 : Option Addr) (len0 cap0 : Nat) (z0 : List Int) (w : World) (w0 : (a0 = none ∧ len0 = 0 ∧ cap0 = 0 ∧ z0 = []) ∨ ∃ x, a0 = some x ∧ len0 ≤ cap0 ∧ cap0 ≤ maxLen ∧ z0.length = cap0 ∧ (∀ i, i < z0.length → w.cell? (x.add i) = some (.int .u8 (z0.getD i 0))) ∧ ∀ n ∈ z0, (Lit.int .u8 n).wf = true) (y0 : len0 * 1 ≤ 140737488351232) (HT_ : Tabs w) :
    Calls Tryd.prog 6 #[.slice a0 len0 cap0] w fun e w' => e = .returned (.bool true) ∧ Below w.heap.size w w' := by
  obtain ⟨l0, rfl, hr0, hm0, hw0, hc0⟩ := ReadsInt.ofRowC w0
  exact mudlarklaw08_HeadBack.walks _ _ l0 w (Kd.C_of_reads (d := (0 : Int)) (h1 := fun _ => rfl) hr0) hc0 (bytes_of_wf hw0) HT_
end Go.Proofs.YtdeolcgabkkocaaDoor.P
