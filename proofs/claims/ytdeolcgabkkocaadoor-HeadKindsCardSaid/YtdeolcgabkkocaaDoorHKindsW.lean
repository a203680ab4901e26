/- HeadKinds walked: it is true for every kind and size. Its condition: head.magic holds what its text lays. -/
import Derived.Test.YtdeolcgabkkocaaDoorHHeadK
namespace Go.Proofs.YtdeolcgabkkocaaDoor.P
open Go Go.RowKit Go.Proofs.YtdeolcgabkkocaaDoorW.PrintWords Go.Proofs.YtdeolcgabkkocaaDoorW.PrintLast Go.Proofs.YtdeolcgabkkocaaDoorW.PrintMore
set_option linter.unusedVariables false
set_option linter.unusedSimpArgs false

def mudlarklaw08_HeadKinds.Pure : Prop := True
theorem print_bad (k n : Int) (h : knownB k = false ∨ k = 83) : printL (hdrA k n) = [] ∧ printN (hdrA k n) = 31 := by
  have e : printO (hdrA k n) = .err 31 := po_kind (by
    unfold headKB hdrA
    rcases h with h | h
    · rw [h]; rfl
    · rw [h]; rfl)
  unfold printL printN
  rw [e]
  exact ⟨rfl, rfl⟩
set_option maxRecDepth 100000 in
set_option maxHeartbeats 4000000 in
theorem mudlarklaw08_HeadKinds.walk (P : mudlarklaw08_HeadKinds.Pure) (a0 a1 : Int) (w : World) (w0 : (Lit.int .u8 a0).wf = true) (w1 : (Lit.int .u16 a1).wf = true) (HT_ : Tabs w) :
    Calls Tryd.prog 4 #[.int .u8 a0, .int .u16 a1] w fun e w' => e = .returned (.bool true) ∧ Below w.heap.size w w' := by
  have HT := Aside0.mk HT_
  have hn : 0 ≤ a1 ∧ a1 ≤ 65535 := by
    simp [Lit.wf, IntKind.min, IntKind.max, IntKind.signed, IntKind.bits] at w1
    omega
  have hz : IntKind.i64.wrap a1 = a1 := by rw [i64_w]; exact wrap64_id a1 (by omega) (by omega)
  have hz2 : wrap64 a1 = a1 := wrap64_id a1 (by omega) (by omega)
  have HKC := Aside0.mk (fun W => head_Known.calls 6 a0 _ W (Known_eq a0))
  have HLK := Aside0.mk law_known_calls
  have HN := Aside0.mk hn
  have HPC := Aside0.mk (fun (W : World) (ht : Tabs W) => Print_calls (hdrA a0 a1) none 0 W (Kd.C_nil _ _) (Nat.le_refl _) ht)
  clear HT_ hn w0 w1
  go_enter Tryd.func4, Tryd.ntmps4
  go_upto_region 2 with (first | (refine wpList_buildTo rfl 25 #[(0, .const (.string ⟨#[97]⟩)), (6, .tmp 10), (8, .const (.int .i64 1)), (4, .tmp 12)] rfl (some 13) rfl (cells25 (hdrA a0 a1) (.slice none 0 0)) (by first | kernel_rfl | rfl) ?_) | (go_at_call 10; refine (HPC.out _ HT.out).mono ?_; rintro e w5 ⟨v5, rfl, hR5, hb5⟩; obtain ⟨A5, c5, rfl⟩ := Kd.R_slice hR5; have HB5 := Aside0.mk hb5; have HR5 := Aside0.mk (Kd.R_reads' hR5).2; clear hb5 hR5))
  by_cases hg : knownB a0 = true ∧ ¬ a0 = 83
  · obtain ⟨hk, h83⟩ := hg
    obtain ⟨l, hl⟩ := print_A a0 a1 hk h83 HN.out.1 HN.out.2
    obtain ⟨b1, b2, b3, p⟩ := pr_inv hl
    have HPB := Aside0.mk (parse_back hl)
    have HLB := Aside0.mk p.bytes
    have hpl := printL_ok hl
    rw [hpl.1] at HR5 ⊢
    rw [hpl.2]
    rw [hk] at HKC
    have e83 : (a0 == 83) = false := beq_eq_false_iff_ne.2 h83
    have e00 : (a0 == a0) = true := beq_self_eq_true a0
    have e11 : (a1 == a1) = true := beq_self_eq_true a1
    clear hk h83 hl p hpl HPC
    go_upto_region 4 with (go_at_call 14; refine (HKC.out _).mono ?_; rintro e w1 ⟨rfl, hb1⟩; have HB1 := Aside0.mk (below_step HB5.out hb1); have HC1 := Aside0.mk (Kd.C_below HR5.out.2 hb1); clear hb1)
    have HPA := Aside0.mk (Parse_as A5 l.length c5 l 0 (hdrA a0 a1) w1 HC1.out rfl HR5.out.1 HLB.out (HT.out.below HB1.out) HPB.out.2 HPB.out.1)
    go_upto_region 5 with (first | (go_at_call 11; refine HPA.out.mono ?_; rintro e w6 ⟨v15, ct, HCT, rfl, HR6, hb6⟩; have HB6 := Aside0.mk (below_step HB1.out hb6); clear hb6) | (refine wpList_store_rowTo rfl 25 _ _ rfl rfl w6.heap.size ct rfl rfl 25 zeroH (row2_alloc w6 zeroH 25) (by rw [HCT.out.size]; kernel_rfl) (by rw [HCT.out.size]; rfl) (HCT.out.one (Kd.R_val HR6.out).2) ?_))
    have hb := box_hdr w6 ct
    have HB7 := Aside0.mk (below_step HB6.out hb.2)
    have HBK := Aside0.mk hb.1
    change Code.wp _ _ _ _ ((w6.alloc (.cells zeroH 25)).setRow w6.heap.size ct)
    generalize (w6.alloc (.cells zeroH 25)).setRow w6.heap.size ct = w7 at HB7 HBK ⊢
    generalize w6.heap.size = g7 at HBK ⊢
    clear hb
    go_wp2_with (go_at_call 9; refine (HLK.out _ (HT.out.below HB7.out)).mono ?_; rintro e w8 ⟨rfl, hb8⟩; have HB8 := Aside0.mk (below_step HB7.out hb8); have c6 : w8.cell? ⟨g7, 6, none⟩ = some (.int .u8 a0) := (blk_cell (blk_below HBK.out hb8) 6).trans (by rw [HCT.out.eq]; rfl); have c4 : w8.cell? ⟨g7, 4, none⟩ = some (.int .i64 a1) := (blk_cell (blk_below HBK.out hb8) 4).trans (by rw [HCT.out.eq]; rfl); clear hb8)
    go_ret
    exact ⟨rfl, HB8.out⟩
  · have hbad : knownB a0 = false ∨ a0 = 83 := by
      cases hk : knownB a0 with
      | false => exact .inl rfl
      | true => exact .inr (Decidable.not_not.1 (fun h => hg ⟨hk, h⟩))
    have hpl := print_bad a0 a1 hbad
    rw [hpl.1] at HR5 ⊢
    rw [hpl.2]
    clear hpl HPC hg HR5
    rcases hbad with hk | h83
    · rw [hk] at HKC
      clear hk
      go_wp2_with (first | (go_at_call 14; refine (HKC.out _).mono ?_; rintro e w1 ⟨rfl, hb1⟩; have HB1 := Aside0.mk (below_step HB5.out hb1); clear hb1) | (go_at_call 9; refine (HLK.out _ (HT.out.below HB1.out)).mono ?_; rintro e w8 ⟨rfl, hb8⟩; have HB8 := Aside0.mk (below_step HB1.out hb8); clear hb8))
      go_ret
      exact ⟨rfl, HB8.out⟩
    · subst h83
      rw [show knownB 83 = true from rfl] at HKC
      go_wp2_with (first | (go_at_call 14; refine (HKC.out _).mono ?_; rintro e w1 ⟨rfl, hb1⟩; have HB1 := Aside0.mk (below_step HB5.out hb1); clear hb1) | (go_at_call 9; refine (HLK.out _ (HT.out.below HB1.out)).mono ?_; rintro e w8 ⟨rfl, hb8⟩; have HB8 := Aside0.mk (below_step HB1.out hb8); clear hb8))
      go_ret
      exact ⟨rfl, HB8.out⟩
end Go.Proofs.YtdeolcgabkkocaaDoor.P
