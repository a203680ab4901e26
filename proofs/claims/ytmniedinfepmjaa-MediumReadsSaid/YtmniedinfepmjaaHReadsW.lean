/- MediumReads: the walk of the law: it hands back true. No conditions. -/
import Derived.Test.YtmniedinfepmjaaHMedG
import Derived.Test.YtmniedinfepmjaaHRefU
import Derived.Test.YtmniedinfepmjaaHRestW
import Derived.Deep.RegionHeld3
namespace Go.Proofs.Ytmniedinfepmjaa.P
open Go Go.RowKit Go.Lib Go.Proofs Go.Sort Go.Proofs.YtmniedinfepmjaaW.PrintWords Go.Proofs.YtmniedinfepmjaaW.PrintLast Go.Proofs.YtmniedinfepmjaaW.PrintMore
set_option linter.unusedVariables false
set_option linter.unusedSimpArgs false

theorem MedV.other {w w2 : World} {base g g2 t : Nat} {v0 v1 v2 : Value} {X B S : List Int} {pl nx : Int} {cs : Array Value} (h : MedV w base g v0 v1 v2 X B S pl nx) (hk : w.heap[g2]? = some (.cells cs t (0, 0))) (h5 : (5 : Nat) ≠ t) (h3 : (3 : Nat) ≠ t) (h6 : 61 ≠ t) (hg : w.grownBy w2 (some g2)) : MedV w2 base g v0 v1 v2 X B S pl nx := by
  obtain ⟨h0, h1, h2, hb, hx⟩ := h
  refine ⟨Kd.R_other h0 hk (fun q hq => by rcases List.mem_cons.1 hq with rfl | hq2; exact h5; cases hq2) hg, Kd.R_other h1 hk (fun q hq => by rcases List.mem_cons.1 hq with rfl | hq2; exact h3; cases hq2) hg, Kd.R_other h2 hk (fun q hq => by rcases List.mem_cons.1 hq with rfl | hq2; exact h3; cases hq2) hg, blk_grown hb hg (fun e => blk_ne hb hk h6 (by cases e; rfl)), hx⟩
set_option maxHeartbeats 8000000 in
set_option maxRecDepth 100000 in
theorem mudlarklaw06_MediumReads.walks (A0 : Option Addr) (c0 : Nat) (l0 : List Int) (a1 : Int) (A2 : Option Addr) (c2 : Nat) (l2 : List Int) (a3 : Int) (A4 : Option Addr) (c4 : Nat) (l4 : List Int) (a5 a6 : Int) (w : World) (hr0 : Kd.C (Kd.int .u8) w A0 l0.length l0) (hc0 : l0.length ≤ c0) (hr2 : Kd.C (Kd.int .i64) w A2 l2.length l2) (hc2 : l2.length ≤ c2) (hr4 : Kd.C (Kd.int .i64) w A4 l4.length l4) (hc4 : l4.length ≤ c4)
    (hl0 : l0.length ≤ 140737488351232) (hl2 : l2.length * 8 ≤ 140737488351232) (hl4 : l4.length * 8 ≤ 140737488351232) (h1 : 0 ≤ a1 ∧ a1 < 65536) (h5 : 0 ≤ a5 ∧ a5 < 256) (h6 : 0 ≤ a6 ∧ a6 < 256) :
    Calls Try.prog 7 #[.slice A0 l0.length c0, .int .u16 a1, .slice A2 l2.length c2, .int .i64 a3, .slice A4 l4.length c4, .int .u8 a5, .int .u8 a6] w fun e w' => e = .returned (.bool true) ∧ Below w.heap.size w w' := by
  have hu27 := Try.underlying27
  have hu44 := Try.underlying44
  have HR0 := Aside0.mk hr0
  have HC0 := Aside0.mk hc0
  have HR2 := Aside0.mk hr2
  have HC2 := Aside0.mk hc2
  have HR4 := Aside0.mk hr4
  have HC4 := Aside0.mk hc4
  have HB := Aside0.mk (Below.refl w.heap.size w)
  have HKN := Aside0.mk (known_eq 5 (by omega))
  have S1 : Aside0 (wrap64 ((l2.length : Int) + (l4.length : Int)) = (l2.length : Int) + (l4.length : Int)) := ⟨wrap64_id _ (by omega) (by omega)⟩
  clear hr0 hc0 hr2 hc2 hr4 hc4
  by_cases c30 : (l2.length : Int) + (l4.length : Int) > 30
  · have c1 : decide ((l2.length : Int) + (l4.length : Int) > 30) = true := decide_eq_true c30
    have c2' : (30 < (l2.length : Int) + (l4.length : Int)) = True := eq_true (by omega)
    clear c30 hl0 hl2 hl4 h1 h5 h6
    have s1 := S1.out
    go_enter Try.func7, Try.ntmps7
    go_wp2_with (go_at_call 9; refine (mudlarklaw06_known.calls 5 true _ HKN.out).mono ?_; rintro e w1 ⟨rfl, hb⟩; have n0_ := Aside0.mk (below_step HB.out hb); clear HB; have HB := n0_; clear n0_ hb)
    go_ret
    exact ⟨rfl, HB.out⟩
  · have c1 : decide ((l2.length : Int) + (l4.length : Int) > 30) = false := decide_eq_false c30
    have c2' : (30 < (l2.length : Int) + (l4.length : Int)) = False := eq_false (by omega)
    obtain ⟨y, hy, hyl⟩ := Bytes_ex l0 hl0 a1 h1.1 h1.2 4000 (by omega)
    have HY := Aside0.mk hy
    have HYL := Aside0.mk hyl
    have HLs : Aside0 (l2.length ≤ 30 ∧ l4.length ≤ 30) := ⟨by omega⟩
    obtain ⟨K, hK⟩ : ∃ K, K = Int.tmod a6 6 := ⟨_, rfl⟩
    have hK0 : 0 ≤ K := by rw [hK]; exact Int.tmod_nonneg _ h6.1
    have hK1 : K < 6 := by rw [hK]; exact Int.tmod_lt_of_pos _ (by decide)
    have k1 : Int.tmod a6 6 = K := hK.symm
    have K2 : Aside0 (wrap64 K = K) := ⟨wrap64_id _ (by omega) (by omega)⟩
    have HK0 := Aside0.mk hK0
    have HK1 := Aside0.mk hK1
    obtain ⟨ev, hev⟩ : ∃ ev, ev = Int.tmod a5 2 := ⟨_, rfl⟩
    have k5 : Int.tmod a5 2 = ev := hev.symm
    have K6 : Aside0 (wrap64 a5 = a5) := ⟨wrap64_id _ (by omega) (by omega)⟩
    obtain ⟨E, hE⟩ : ∃ E, (ev = 0 ∧ wrap64 (a5 * 20) = E) ∨ (¬ ev = 0 ∧ E = a3) := by
      by_cases h : ev = 0
      · exact ⟨_, .inl ⟨h, rfl⟩⟩
      · exact ⟨_, .inr ⟨h, rfl⟩⟩
    have HNew : Aside0 (∀ W, Below w.heap.size w W → ∀ Ay ky, Kd.C (Kd.int .u8) W Ay y.length y → y.length ≤ ky → Calls Try.prog 17 #[.slice Ay y.length ky, .slice A2 l2.length c2, .int .i64 E, .slice A4 l4.length c4] W fun e w' => ∃ g, e = .returned (.pointer (some ⟨g, 0, none⟩)) ∧ Med w' W.heap.size g (makeB (cutE y E) (badL (cutE y E).length l2)) (badL (cutE y E).length l2) l4 0 0 ∧ Below W.heap.size W w') := ⟨fun W hb Ay ky hCy hky =>
      medium_New.calls Ay ky y A2 c2 l2 E A4 c4 l4 W hCy hky (Kd.C_below HR2.out hb) HC2.out (Kd.C_below HR4.out hb) HC4.out (by omega) (by have := HLs.out; omega) (by have := HLs.out; omega)⟩
    have HRNew : Aside0 (∀ W, Below w.heap.size w W → ∀ Ay ky, Kd.C (Kd.int .u8) W Ay y.length y → y.length ≤ ky → Calls Try.prog 20 #[.slice Ay y.length ky, .slice A2 l2.length c2, .int .i64 E, .slice A4 l4.length c4] W fun e w' => ∃ v0_ v1_, e = .returned (.agg #[v0_, v1_, .slice A4 l4.length c4, .int .i64 0, .int .i64 0]) ∧ Kd.R (Kd.int .u8) 5 w' W.heap.size (fun _ => True) v0_ (makeB (cutE y E) (badL (cutE y E).length l2)) ∧ Kd.R (Kd.int .i64) 3 w' W.heap.size (fun _ => True) v1_ (badL (cutE y E).length l2) ∧ Below W.heap.size W w') := ⟨fun W hb Ay ky hCy hky =>
      mudlarkref06_New.calls Ay ky y A2 c2 l2 E A4 l4.length c4 W hCy hky (Kd.C_below HR2.out hb) HC2.out (by omega) (by have := HLs.out; omega)⟩
    have hcl := cutE_len y E
    have hbl := badL_len (cutE y E).length l2
    have hml := Pure.makeB_len (badL (cutE y E).length l2) (cutE y E)
    obtain ⟨X, hX⟩ : ∃ X, X = makeB (cutE y E) (badL (cutE y E).length l2) := ⟨_, rfl⟩
    obtain ⟨B, hBB⟩ : ∃ B, B = badL (cutE y E).length l2 := ⟨_, rfl⟩
    have HXB : Aside0 (X.length ≤ 3000 ∧ B.length ≤ 30) := ⟨by rw [hX, hBB]; have := HLs.out; omega⟩
    rw [← hX, ← hBB] at HNew HRNew
    clear hl0 hl2 hl4 h1 h6 hy hyl c30 hK hK0 hK1 hev h5 hcl hbl hml hX hBB
    have s1 := S1.out
    have k2 := K2.out
    rcases hE with ⟨rfl, e20⟩ | ⟨cv, rfl⟩
    · have k6 := K6.out
      have e20' : IntKind.i64.wrap (a5 * 20) = E := by rw [← i64_w] at e20; exact e20
      go_enter Try.func7, Try.ntmps7
      go_wp2_with (first | (go_at_call 9; refine (mudlarklaw06_known.calls 5 true _ HKN.out).mono ?_; rintro e w0_ ⟨rfl, hb⟩; have n1_ := Aside0.mk (below_step HB.out hb); clear HB; have HB := n1_; clear n1_ hb) | (go_at_call 11; refine (mudlarklaw06_Bytes.calls 4000 _ _ l0 a1 y _ (Kd.C_below HR0.out HB.out) HC0.out HY.out).mono ?_; rintro e w1 ⟨vy, rfl, ho, hb⟩; obtain ⟨Ay, ky, rfl⟩ := Kd.R_slice ho; have n0_ := Aside0.mk (Kd.R_lower ho (below_size HB.out)); have n1_ := Aside0.mk (below_step HB.out hb); clear HB; have HO1 := n0_; have HB := n1_; clear n0_ n1_ ho hb) | (go_at_call 17; refine (HNew.out _ HB.out Ay ky (Kd.R_reads' HO1.out).2.2 (Kd.R_reads' HO1.out).2.1).mono ?_; rintro e w2 ⟨g, rfl, ⟨v0, v1, v2, hm⟩, hb⟩; have n0_ := Aside0.mk (hm.lower (below_size HB.out)); have n1_ := Aside0.mk (Kd.R_below HO1.out hb); have n2_ := Aside0.mk (below_step HB.out hb); clear HB HO1; have HM := n0_; have HO1 := n1_; have HB := n2_; clear n0_ n1_ n2_ hm hb) | (go_at_call 20; have HBo := Aside0.mk (below_size HB.out); refine (HRNew.out _ HB.out Ay ky (Kd.R_reads' HO1.out).2.2 (Kd.R_reads' HO1.out).2.1).mono ?_; rintro e w3 ⟨vx, vb, rfl, hx, hbb, hb⟩; obtain ⟨Ax, kx, rfl⟩ := Kd.R_slice hx; obtain ⟨Ab, kb, rfl⟩ := Kd.R_slice hbb; have n0_ := Aside0.mk (HM.out.below hb); have n2_ := Aside0.mk (below_step HB.out hb); have n3_ := Aside0.mk (Kd.R_lower hx HBo.out); have n4_ := Aside0.mk (Kd.R_lower hbb HBo.out); clear HB HO1 HM HBo; have HM := n0_; have HB := n2_; have HX := n3_; have HBB := n4_; clear n0_ n2_ n3_ n4_ hx hbb hb))
      have bt := heap_alloc_new w3 (.cells #[.slice Ax X.length kx, .slice Ab B.length kb, .slice A4 l4.length c4, .int .i64 0, .int .i64 0] 44)
      have gt := below_size HB.out
      have n0_ := Aside0.mk (HM.out.below ((Below.refl _ w3).alloc (Nat.le_refl _) (.cells #[.slice Ax X.length kx, .slice Ab B.length kb, .slice A4 l4.length c4, .int .i64 0, .int .i64 0] 44)))
      have n1_ := Aside0.mk (Kd.R_alloc HX.out (.cells #[.slice Ax X.length kx, .slice Ab B.length kb, .slice A4 l4.length c4, .int .i64 0, .int .i64 0] 44))
      have n2_ := Aside0.mk (Kd.R_alloc HBB.out (.cells #[.slice Ax X.length kx, .slice Ab B.length kb, .slice A4 l4.length c4, .int .i64 0, .int .i64 0] 44))
      have n3_ := Aside0.mk (HB.out.alloc (below_size HB.out) (.cells #[.slice Ax X.length kx, .slice Ab B.length kb, .slice A4 l4.length c4, .int .i64 0, .int .i64 0] 44))
      generalize w3.heap.size = gT at bt gt ⊢
      generalize w3.alloc (.cells #[.slice Ax X.length kx, .slice Ab B.length kb, .slice A4 l4.length c4, .int .i64 0, .int .i64 0] 44) = W3 at bt n0_ n1_ n2_ n3_ ⊢
      have GT := Aside0.mk gt
      have BT0 := Aside0.mk bt
      clear gt bt HM HX HBB HB
      go_loopg [18] 30 (fun kq v18 w' => ∃ (i pl nx : Int), v18 = .int .i64 i ∧ Aside0 (i + (kq : Int) = 30 ∧ 0 ≤ i ∧ i ≤ K) ∧ Aside0 (0 ≤ pl ∧ pl ≤ (X.length : Int) ∧ NxOk l4 nx) ∧ Aside0 (MedV w' w.heap.size g v0 v1 v2 X B l4 pl nx) ∧ Aside0 (Kd.R (Kd.int .u8) 5 w' w.heap.size (fun _ => True) (.slice Ax X.length kx) X) ∧ Aside0 (Kd.R (Kd.int .i64) 3 w' w.heap.size (fun _ => True) (.slice Ab B.length kb) B) ∧ Aside0 (w'.heap[gT]? = some (.cells #[.slice Ax X.length kx, .slice Ab B.length kb, .slice A4 l4.length c4, .int .i64 pl, .int .i64 nx] 44 (0, 0))) ∧ Aside0 (Below w.heap.size w w'))
      case atStart => exact ⟨0, 0, 0, rfl, ⟨by have := HK0.out; omega⟩, ⟨by decide, by omega, by unfold NxOk; by_cases h : l4 = []; exact .inl h; exact .inr ⟨by decide, by have := List.length_pos_iff.2 h; omega⟩⟩, n0_, n1_, n2_, BT0, n3_⟩
      case round =>
        obtain ⟨i, pl, nx, rfl, HI, HPP, HM, HX, HBB, BT, HB⟩ := hrel
        cases gk with
        | zero => exact absurd HI.out (by have := HK1.out; have := HI.out; omega)
        | succ k4 =>
          by_cases ci : i < K
          · have ci1 : decide (i < K) = true := decide_eq_true ci
            have HCI := Aside0.mk ci
            clear ci
            by_cases ce : pl = (X.length : Int)
            · subst ce
              go_upto_region 13 with (first | (go_at_call 18; refine (medium_Read.done _ w.heap.size g X B l4 nx ⟨_, _, _, HM.out⟩).mono ?_; rintro e w5 ⟨rfl, hb⟩; have n0_ := Aside0.mk (HM.out.below hb); have n1_ := Aside0.mk (Kd.R_below HX.out hb); have n2_ := Aside0.mk (Kd.R_below HBB.out hb); have n3_ := Aside0.mk (blk_below BT.out hb); have n4_ := Aside0.mk (below_step HB.out hb); clear HM HX HBB BT HB; have HM := n0_; have HX := n1_; have HBB := n2_; have BT := n3_; have HB := n4_; clear n0_ n1_ n2_ n3_ n4_ hb; have cgT_0 : w5.cell? ⟨gT, 0, none⟩ = some (.slice Ax X.length kx) := (blk_cell BT.out 0).trans rfl; have cgT_1 : w5.cell? ⟨gT, 1, none⟩ = some (.slice Ab B.length kb) := (blk_cell BT.out 1).trans rfl; have cgT_2 : w5.cell? ⟨gT, 2, none⟩ = some (.slice A4 l4.length c4) := (blk_cell BT.out 2).trans rfl; have cgT_3 : w5.cell? ⟨gT, 3, none⟩ = some (.int .i64 (X.length : Int)) := (blk_cell BT.out 3).trans rfl; have cgT_4 : w5.cell? ⟨gT, 4, none⟩ = some (.int .i64 nx) := (blk_cell BT.out 4).trans rfl) | (go_at_call 21; refine (mudlarkref06_Read.done _ _ _ _ Ax X.length kx nx rfl ⟨_, _, _, rfl⟩ ⟨_, _, _, rfl⟩ (by have := HXB.out; omega)).mono ?_; rintro e w6 ⟨rfl, hb⟩; have n0_ := Aside0.mk (HM.out.below hb); have n1_ := Aside0.mk (Kd.R_below HX.out hb); have n2_ := Aside0.mk (Kd.R_below HBB.out hb); have n3_ := Aside0.mk (blk_below BT.out hb); have n4_ := Aside0.mk (below_step HB.out hb); clear HM HX HBB BT HB; have HM := n0_; have HX := n1_; have HBB := n2_; have BT := n3_; have HB := n4_; clear n0_ n1_ n2_ n3_ n4_ hb; clear cgT_0 cgT_1 cgT_2 cgT_3 cgT_4))
              have bU := heap_alloc_new w6 (.cells #[.slice Ax X.length kx, .slice Ab B.length kb, .slice A4 l4.length c4, .int .i64 (X.length : Int), .int .i64 nx] 44)
              have bT := blk_alloc BT.out (.cells #[.slice Ax X.length kx, .slice Ab B.length kb, .slice A4 l4.length c4, .int .i64 (X.length : Int), .int .i64 nx] 44)
              have hm7 := HM.out.below ((Below.refl _ w6).alloc (Nat.le_refl _) (.cells #[.slice Ax X.length kx, .slice Ab B.length kb, .slice A4 l4.length c4, .int .i64 (X.length : Int), .int .i64 nx] 44))
              have hx7 := Kd.R_alloc HX.out (.cells #[.slice Ax X.length kx, .slice Ab B.length kb, .slice A4 l4.length c4, .int .i64 (X.length : Int), .int .i64 nx] 44)
              have hb7 := Kd.R_alloc HBB.out (.cells #[.slice Ax X.length kx, .slice Ab B.length kb, .slice A4 l4.length c4, .int .i64 (X.length : Int), .int .i64 nx] 44)
              have hB7 := HB.out.alloc (below_size HB.out) (.cells #[.slice Ax X.length kx, .slice Ab B.length kb, .slice A4 l4.length c4, .int .i64 (X.length : Int), .int .i64 nx] 44)
              have nTU := Nat.ne_of_lt (blk_lt BT.out)
              generalize w6.heap.size = gU at bU nTU ⊢
              generalize w6.alloc (.cells #[.slice Ax X.length kx, .slice Ab B.length kb, .slice A4 l4.length c4, .int .i64 (X.length : Int), .int .i64 nx] 44) = W6 at bU bT hm7 hx7 hb7 hB7 ⊢
              have cgU_0 : W6.cell? ⟨gU, 0, none⟩ = some (.slice Ax X.length kx) := (blk_cell bU 0).trans rfl
              have cgU_1 : W6.cell? ⟨gU, 1, none⟩ = some (.slice Ab B.length kb) := (blk_cell bU 1).trans rfl
              have cgU_2 : W6.cell? ⟨gU, 2, none⟩ = some (.slice A4 l4.length c4) := (blk_cell bU 2).trans rfl
              have cgU_3 : W6.cell? ⟨gU, 3, none⟩ = some (.int .i64 (X.length : Int)) := (blk_cell bU 3).trans rfl
              have cgU_4 : W6.cell? ⟨gU, 4, none⟩ = some (.int .i64 nx) := (blk_cell bU 4).trans rfl
              have cgT_0 : W6.cell? ⟨gT, 0, none⟩ = some (.slice Ax X.length kx) := (blk_cell bT 0).trans rfl
              have cgT_1 : W6.cell? ⟨gT, 1, none⟩ = some (.slice Ab B.length kb) := (blk_cell bT 1).trans rfl
              have cgT_2 : W6.cell? ⟨gT, 2, none⟩ = some (.slice A4 l4.length c4) := (blk_cell bT 2).trans rfl
              have cgT_3 : W6.cell? ⟨gT, 3, none⟩ = some (.int .i64 (X.length : Int)) := (blk_cell bT 3).trans rfl
              have cgT_4 : W6.cell? ⟨gT, 4, none⟩ = some (.int .i64 nx) := (blk_cell bT 4).trans rfl
              have fgT_0 := blk_frozen bT 0
              have fgT_1 := blk_frozen bT 1
              have fgT_2 := blk_frozen bT 2
              have fgT_3 := blk_frozen bT 3
              have fgT_4 := blk_frozen bT 4
              have NTU := Aside0.mk nTU
              have BT6 := Aside0.mk bT
              have BU6 := Aside0.mk bU
              have HM6 := Aside0.mk hm7
              have HX6 := Aside0.mk hx7
              have HBB6 := Aside0.mk hb7
              have HB6 := Aside0.mk hB7
              clear nTU bT bU hm7 hx7 hb7 hB7 HM HX HBB HB BT
              go_upto_region 14 with (first | fail)
              have t0 := blk_put BT6.out 0 (.slice Ax X.length kx) rfl
              have t1 := blk_put t0 1 (.slice Ab B.length kb) rfl
              have t2 := blk_put t1 2 (.slice A4 l4.length c4) rfl
              have t3 := blk_put t2 3 (.int .i64 (X.length : Int)) rfl
              have t4 := blk_put t3 4 (.int .i64 nx) rfl
              have hgT := ((((grown_setCell W6 gT 0 (.slice Ax X.length kx)).trans (grown_setCell _ gT 1 (.slice Ab B.length kb))).trans (grown_setCell _ gT 2 (.slice A4 l4.length c4))).trans (grown_setCell _ gT 3 (.int .i64 (X.length : Int)))).trans (grown_setCell _ gT 4 (.int .i64 nx))
              have hm8 := HM6.out.other BT6.out (by decide) (by decide) (by decide) hgT
              have hx8 := Kd.R_other HX6.out BT6.out (by decide) hgT
              have hb8 := Kd.R_other HBB6.out BT6.out (by decide) hgT
              have hB8 := HB6.out.grown hgT (below_size HB6.out) (fun k e => by cases e; exact GT.out)
              clear hgT t0 t1 t2 t3 cgU_0 cgU_1 cgU_2 cgU_3 cgU_4 cgT_0 cgT_1 cgT_2 cgT_3 cgT_4 fgT_0 fgT_1 fgT_2 fgT_3 fgT_4
              generalize ((((W6.setCell ⟨gT, 0, none⟩ (.slice Ax X.length kx)).setCell ⟨gT, 1, none⟩ (.slice Ab B.length kb)).setCell ⟨gT, 2, none⟩ (.slice A4 l4.length c4)).setCell ⟨gT, 3, none⟩ (.int .i64 (X.length : Int))).setCell ⟨gT, 4, none⟩ (.int .i64 nx) = W7 at t4 hm8 hx8 hb8 hB8 ⊢
              have hcv1 := Kd.C_string (P := Try.prog) (c := 0) Try.underlying22 Try.underlying5 Try.underlying9 (show Kd.C (Kd.int .u8) W7 none 0 [] from Kd.C_nil _ _)
              go_wp2
              go_roundg k4
              case measure => omega
              case rel =>
                have hI := HI.out; have hCI := HCI.out; have hK1 := HK1.out
                exact ⟨i + 1, (X.length : Int), nx, by rw [wrap64_id (i + 1) (by omega) (by omega)], ⟨by omega⟩, HPP, ⟨hm8⟩, ⟨hx8⟩, ⟨hb8⟩, ⟨t4⟩, ⟨hB8⟩⟩
            · have HPL : Aside0 (pl < (X.length : Int)) := ⟨by have := HPP.out; omega⟩
              have hto := toM_ok X l4 pl nx HPP.out.1 HPL.out
              obtain ⟨T, hT⟩ : ∃ T, T = toM X l4 pl nx := ⟨_, rfl⟩
              obtain ⟨NX, hNX⟩ : ∃ NX, NX = nextM l4 nx := ⟨_, rfl⟩
              obtain ⟨OUT, hOUT⟩ : ∃ OUT, OUT = (X.take T.toNat).drop pl.toNat := ⟨_, rfl⟩
              have HNK : Aside0 (NxOk l4 NX) := ⟨by rw [hNX]; exact nextM_ok l4 nx HPP.out.2.2⟩
              have HTO : Aside0 (toM X l4 pl nx = T) := ⟨hT.symm⟩
              have HNX : Aside0 (nextM l4 nx = NX) := ⟨hNX.symm⟩
              have HOUT : Aside0 ((X.take T.toNat).drop pl.toNat = OUT) := ⟨hOUT.symm⟩
              have HTT : Aside0 (0 ≤ T ∧ T ≤ (X.length : Int)) := ⟨by rw [hT]; have := HPP.out; omega⟩
              have HRD : Aside0 (∀ W base, MedV W base g v0 v1 v2 X B l4 pl nx → Calls Try.prog 18 #[.pointer (some ⟨g, 0, none⟩)] W fun e w' => ∃ v, e = .returned (.tuple #[v, .bool true]) ∧ Kd.R (Kd.int .u8) 5 w' W.heap.size (fun _ => True) v OUT ∧ MedV w' base g v0 v1 v2 X B l4 T NX ∧ W.grownBy w' (some g)) := ⟨fun W base hm => by
                have h1 := HXB.out; have h2 := HLs.out
                rw [hOUT, hNX, hT]
                exact medium_Read.more W base g X B l4 pl nx v0 v1 v2 hm (by omega) (by omega) HPP.out.1 HPL.out HPP.out.2.2⟩
              clear hto hOUT hT hNX ce
              go_upto_region 13 with (first | (go_at_call 18; refine (HRD.out _ _ HM.out).mono ?_; rintro e w5 ⟨v9, rfl, ho, hm1, hg1⟩; obtain ⟨A9, k9, rfl⟩ := Kd.R_slice ho; have hk_ := HM.out.2.2.2.1; have n0_ := Aside0.mk hm1; have n1_ := Aside0.mk (Kd.R_other HX.out hk_ (by decide) hg1); have n2_ := Aside0.mk (Kd.R_other HBB.out hk_ (by decide) hg1); have n3_ := Aside0.mk (blk_grown BT.out hg1 (fun e => blk_ne BT.out hk_ (by decide) (by cases e; rfl))); have n4_ := Aside0.mk (HB.out.grown hg1 (below_size HB.out) (fun k e => by cases e; exact HM.out.2.2.2.2)); clear HM HX HBB BT HB hk_; have HM := n0_; have HX := n1_; have HBB := n2_; have BT := n3_; have HB := n4_; have H9 := Aside0.mk ho; clear n0_ n1_ n2_ n3_ n4_ ho hm1 hg1; have cgT_0 : w5.cell? ⟨gT, 0, none⟩ = some (.slice Ax X.length kx) := (blk_cell BT.out 0).trans rfl; have cgT_1 : w5.cell? ⟨gT, 1, none⟩ = some (.slice Ab B.length kb) := (blk_cell BT.out 1).trans rfl; have cgT_2 : w5.cell? ⟨gT, 2, none⟩ = some (.slice A4 l4.length c4) := (blk_cell BT.out 2).trans rfl; have cgT_3 : w5.cell? ⟨gT, 3, none⟩ = some (.int .i64 pl) := (blk_cell BT.out 3).trans rfl; have cgT_4 : w5.cell? ⟨gT, 4, none⟩ = some (.int .i64 nx) := (blk_cell BT.out 4).trans rfl) | (go_at_call 21; refine (mudlarkref06_Read.more _ Ax Ab A4 kx B.length kb c4 X l4 pl nx (Kd.R_reads' HX.out).2.2 (Kd.R_reads' HX.out).2.1 (Kd.C_below HR4.out HB.out) (by have := HXB.out; omega) (by have := HLs.out; omega) HPP.out.1 (by have := HPP.out; have := HPL.out; omega) HPP.out.2.2).mono ?_; rintro e w6 ⟨A8, k8, he, hp, hb⟩; rw [HTO.out, HNX.out, HOUT.out] at he; rw [HTO.out, HOUT.out] at hp; subst he; have n0_ := Aside0.mk (HM.out.below hb); have n1_ := Aside0.mk (Kd.R_below HX.out hb); have n2_ := Aside0.mk (Kd.R_below HBB.out hb); have n3_ := Aside0.mk (blk_below BT.out hb); have n4_ := Aside0.mk (below_step HB.out hb); have n5_ := Aside0.mk (Kd.R_below H9.out hb); have H8 := Aside0.mk hp; clear HM HX HBB BT HB H9; have HM := n0_; have HX := n1_; have HBB := n2_; have BT := n3_; have HB := n4_; have H9 := n5_; clear n0_ n1_ n2_ n3_ n4_ n5_ hp hb; clear cgT_0 cgT_1 cgT_2 cgT_3 cgT_4))
              have bU := heap_alloc_new w6 (.cells #[.slice Ax X.length kx, .slice Ab B.length kb, .slice A4 l4.length c4, .int .i64 T, .int .i64 NX] 44)
              have bT := blk_alloc BT.out (.cells #[.slice Ax X.length kx, .slice Ab B.length kb, .slice A4 l4.length c4, .int .i64 T, .int .i64 NX] 44)
              have hm7 := HM.out.below ((Below.refl _ w6).alloc (Nat.le_refl _) (.cells #[.slice Ax X.length kx, .slice Ab B.length kb, .slice A4 l4.length c4, .int .i64 T, .int .i64 NX] 44))
              have hx7 := Kd.R_alloc HX.out (.cells #[.slice Ax X.length kx, .slice Ab B.length kb, .slice A4 l4.length c4, .int .i64 T, .int .i64 NX] 44)
              have hb7 := Kd.R_alloc HBB.out (.cells #[.slice Ax X.length kx, .slice Ab B.length kb, .slice A4 l4.length c4, .int .i64 T, .int .i64 NX] 44)
              have hB7 := HB.out.alloc (below_size HB.out) (.cells #[.slice Ax X.length kx, .slice Ab B.length kb, .slice A4 l4.length c4, .int .i64 T, .int .i64 NX] 44)
              have nTU := Nat.ne_of_lt (blk_lt BT.out)
              have h97 := Kd.R_alloc H9.out (.cells #[.slice Ax X.length kx, .slice Ab B.length kb, .slice A4 l4.length c4, .int .i64 T, .int .i64 NX] 44)
              generalize w6.heap.size = gU at bU nTU ⊢
              generalize w6.alloc (.cells #[.slice Ax X.length kx, .slice Ab B.length kb, .slice A4 l4.length c4, .int .i64 T, .int .i64 NX] 44) = W6 at bU bT hm7 hx7 hb7 hB7 h97 ⊢
              have cgU_0 : W6.cell? ⟨gU, 0, none⟩ = some (.slice Ax X.length kx) := (blk_cell bU 0).trans rfl
              have cgU_1 : W6.cell? ⟨gU, 1, none⟩ = some (.slice Ab B.length kb) := (blk_cell bU 1).trans rfl
              have cgU_2 : W6.cell? ⟨gU, 2, none⟩ = some (.slice A4 l4.length c4) := (blk_cell bU 2).trans rfl
              have cgU_3 : W6.cell? ⟨gU, 3, none⟩ = some (.int .i64 T) := (blk_cell bU 3).trans rfl
              have cgU_4 : W6.cell? ⟨gU, 4, none⟩ = some (.int .i64 NX) := (blk_cell bU 4).trans rfl
              have cgT_0 : W6.cell? ⟨gT, 0, none⟩ = some (.slice Ax X.length kx) := (blk_cell bT 0).trans rfl
              have cgT_1 : W6.cell? ⟨gT, 1, none⟩ = some (.slice Ab B.length kb) := (blk_cell bT 1).trans rfl
              have cgT_2 : W6.cell? ⟨gT, 2, none⟩ = some (.slice A4 l4.length c4) := (blk_cell bT 2).trans rfl
              have cgT_3 : W6.cell? ⟨gT, 3, none⟩ = some (.int .i64 pl) := (blk_cell bT 3).trans rfl
              have cgT_4 : W6.cell? ⟨gT, 4, none⟩ = some (.int .i64 nx) := (blk_cell bT 4).trans rfl
              have fgT_0 := blk_frozen bT 0
              have fgT_1 := blk_frozen bT 1
              have fgT_2 := blk_frozen bT 2
              have fgT_3 := blk_frozen bT 3
              have fgT_4 := blk_frozen bT 4
              have NTU := Aside0.mk nTU
              have BT6 := Aside0.mk bT
              have BU6 := Aside0.mk bU
              have HM6 := Aside0.mk hm7
              have HX6 := Aside0.mk hx7
              have HBB6 := Aside0.mk hb7
              have HB6 := Aside0.mk hB7
              have H96 := Aside0.mk h97
              clear h97
              clear nTU bT bU hm7 hx7 hb7 hB7 HM HX HBB HB BT
              go_upto_region 14 with (first | fail)
              have t0 := blk_put BT6.out 0 (.slice Ax X.length kx) rfl
              have t1 := blk_put t0 1 (.slice Ab B.length kb) rfl
              have t2 := blk_put t1 2 (.slice A4 l4.length c4) rfl
              have t3 := blk_put t2 3 (.int .i64 T) rfl
              have t4 := blk_put t3 4 (.int .i64 NX) rfl
              have hgT := ((((grown_setCell W6 gT 0 (.slice Ax X.length kx)).trans (grown_setCell _ gT 1 (.slice Ab B.length kb))).trans (grown_setCell _ gT 2 (.slice A4 l4.length c4))).trans (grown_setCell _ gT 3 (.int .i64 T))).trans (grown_setCell _ gT 4 (.int .i64 NX))
              have hm8 := HM6.out.other BT6.out (by decide) (by decide) (by decide) hgT
              have hx8 := Kd.R_other HX6.out BT6.out (by decide) hgT
              have hb8 := Kd.R_other HBB6.out BT6.out (by decide) hgT
              have hB8 := HB6.out.grown hgT (below_size HB6.out) (fun k e => by cases e; exact GT.out)
              have h98 := Kd.R_other H96.out BT6.out (by decide) hgT
              clear hgT t0 t1 t2 t3 cgU_0 cgU_1 cgU_2 cgU_3 cgU_4 cgT_0 cgT_1 cgT_2 cgT_3 cgT_4 fgT_0 fgT_1 fgT_2 fgT_3 fgT_4
              generalize ((((W6.setCell ⟨gT, 0, none⟩ (.slice Ax X.length kx)).setCell ⟨gT, 1, none⟩ (.slice Ab B.length kb)).setCell ⟨gT, 2, none⟩ (.slice A4 l4.length c4)).setCell ⟨gT, 3, none⟩ (.int .i64 T)).setCell ⟨gT, 4, none⟩ (.int .i64 NX) = W7 at t4 hm8 hx8 hb8 hB8 h98 ⊢
              have hcv1 := own_string (P := Try.prog) Try.underlying22 Try.underlying5 Try.underlying9 (Kd.own_of_R h98)
              have hcv2 := Kd.C_string (P := Try.prog) (c := k8) Try.underlying22 Try.underlying5 Try.underlying9 (H8.out W7 (Kd.R_reads' hx8).2.2)
              go_wp2
              go_roundg k4
              case measure => omega
              case rel =>
                have hI := HI.out; have hCI := HCI.out; have hK1 := HK1.out
                exact ⟨i + 1, T, NX, by rw [wrap64_id (i + 1) (by omega) (by omega)], ⟨by omega⟩, ⟨by have := HTT.out; omega, by have := HTT.out; omega, HNK.out⟩, ⟨hm8⟩, ⟨hx8⟩, ⟨hb8⟩, ⟨t4⟩, ⟨hB8⟩⟩
          · have ci1 : decide (i < K) = false := decide_eq_false ci
            clear ci
            obtain ⟨RS, hRS⟩ : ∃ RS, RS = X.drop pl.toNat := ⟨_, rfl⟩
            obtain ⟨LB, hLB⟩ : ∃ LB, LB = (if pl = 0 then B else []) := ⟨_, rfl⟩
            have HRS : Aside0 (X.drop pl.toNat = RS) := ⟨hRS.symm⟩
            have HLB : Aside0 ((if pl = 0 then B else []) = LB) := ⟨hLB.symm⟩
            have HLn : Aside0 (RS.length ≤ 3000 ∧ LB.length ≤ 30) := ⟨by rw [hRS, hLB, List.length_drop]; have := HXB.out; constructor; omega; split; omega; simp⟩
            have HGA : Aside0 (∀ W base, MedV W base g v0 v1 v2 X B l4 pl nx → Calls Try.prog 19 #[.pointer (some ⟨g, 0, none⟩)] W fun e w' => ∃ a b, e = .returned (.agg #[a, b]) ∧ Kd.R (Kd.int .u8) 5 w' W.heap.size (fun _ => True) a RS ∧ Kd.R (Kd.int .i64) 3 w' W.heap.size (fun _ => True) b LB ∧ (∃ nx, MedV w' base g v0 v1 v2 X B l4 (X.length : Int) nx ∧ NxOk l4 nx) ∧ W.grownBy w' (some g)) := ⟨fun W base hm => by
              have h1 := HXB.out; have h2 := HLs.out
              rw [hRS, hLB]
              exact medium_Gather.calls W base g v0 v1 v2 X B l4 pl nx hm (by omega) (by omega) (by omega) HPP.out.1 HPP.out.2.1 HPP.out.2.2⟩
            clear hRS hLB
            go_upto_region 18 with (first | (go_at_call 22; have HBo := Aside0.mk (below_size HB.out); refine (medium_Spoilt.calls _ w.heap.size g X B l4 pl nx ⟨_, _, _, HM.out⟩ (by have := HXB.out; omega)).mono ?_; rintro e w5 ⟨vs, rfl, hs, hb⟩; obtain ⟨As, ks, rfl⟩ := Kd.R_slice hs; have n0_ := Aside0.mk (HM.out.below hb); have n1_ := Aside0.mk (Kd.R_below HX.out hb); have n2_ := Aside0.mk (Kd.R_below HBB.out hb); have n3_ := Aside0.mk (blk_below BT.out hb); have n4_ := Aside0.mk (below_step HB.out hb); have n5_ := Aside0.mk (Kd.R_lower hs HBo.out); clear HM HX HBB BT HB HBo; have HM := n0_; have HX := n1_; have HBB := n2_; have BT := n3_; have HB := n4_; have HSP := n5_; clear n0_ n1_ n2_ n3_ n4_ n5_ hs hb; have cT_0 : w5.cell? ⟨gT, 0, none⟩ = some (.slice Ax X.length kx) := (blk_cell BT.out 0).trans rfl; have cT_1 : w5.cell? ⟨gT, 1, none⟩ = some (.slice Ab B.length kb) := (blk_cell BT.out 1).trans rfl; have cT_2 : w5.cell? ⟨gT, 2, none⟩ = some (.slice A4 l4.length c4) := (blk_cell BT.out 2).trans rfl; have cT_3 : w5.cell? ⟨gT, 3, none⟩ = some (.int .i64 pl) := (blk_cell BT.out 3).trans rfl; have cT_4 : w5.cell? ⟨gT, 4, none⟩ = some (.int .i64 nx) := (blk_cell BT.out 4).trans rfl) | (go_at_call 23; refine (mudlarkref06_Gather.calls _ Ax Ab A4 kx kb l4.length c4 X B pl nx (Kd.R_reads' HX.out).2.2 (Kd.R_reads' HX.out).2.1 (Kd.R_reads' HBB.out).2.2 (Kd.R_reads' HBB.out).2.1 HPP.out.1 HPP.out.2.1).mono ?_; rintro e w6 ⟨Ag, kg, Ah, kh, he, hg1, hg2, hg3, hg4, hb⟩; rw [HRS.out, HLB.out] at he; rw [HRS.out] at hg1 hg2; rw [HLB.out] at hg3 hg4; subst he; have n0_ := Aside0.mk (HM.out.below hb); have n1_ := Aside0.mk (Kd.R_below HX.out hb); have n2_ := Aside0.mk (Kd.R_below HBB.out hb); have n3_ := Aside0.mk (blk_below BT.out hb); have n4_ := Aside0.mk (below_step HB.out hb); have n5_ := Aside0.mk (Kd.R_below HSP.out hb); have G1 := Aside0.mk hg1; have G2 := Aside0.mk hg2; have G3 := Aside0.mk hg3; have G4 := Aside0.mk hg4; clear HM HX HBB BT HB HSP; have HM := n0_; have HX := n1_; have HBB := n2_; have BT := n3_; have HB := n4_; have HSP := n5_; clear n0_ n1_ n2_ n3_ n4_ n5_ hg1 hg2 hg3 hg4 hb; clear cT_0 cT_1 cT_2 cT_3 cT_4))
            have bI := heap_alloc_new (w6.alloc (.cells #[.slice Ax X.length kx, .slice Ab B.length kb, .slice A4 l4.length c4, .int .i64 (X.length : Int), .int .i64 nx] 44)) (.cells #[.slice Ag RS.length kg, .slice Ah LB.length kh] 27)
            rw [World.size_alloc] at bI
            have bT := blk_alloc (blk_alloc BT.out (.cells #[.slice Ax X.length kx, .slice Ab B.length kb, .slice A4 l4.length c4, .int .i64 (X.length : Int), .int .i64 nx] 44)) (.cells #[.slice Ag RS.length kg, .slice Ah LB.length kh] 27)
            have hm7 := HM.out.below (((Below.refl w6.heap.size w6).alloc (Nat.le_refl _) (.cells #[.slice Ax X.length kx, .slice Ab B.length kb, .slice A4 l4.length c4, .int .i64 (X.length : Int), .int .i64 nx] 44)).alloc (by rw [World.size_alloc]; omega) (.cells #[.slice Ag RS.length kg, .slice Ah LB.length kh] 27))
            have hx7 := Kd.R_alloc (Kd.R_alloc HX.out (.cells #[.slice Ax X.length kx, .slice Ab B.length kb, .slice A4 l4.length c4, .int .i64 (X.length : Int), .int .i64 nx] 44)) (.cells #[.slice Ag RS.length kg, .slice Ah LB.length kh] 27)
            have hb7 := Kd.R_alloc (Kd.R_alloc HBB.out (.cells #[.slice Ax X.length kx, .slice Ab B.length kb, .slice A4 l4.length c4, .int .i64 (X.length : Int), .int .i64 nx] 44)) (.cells #[.slice Ag RS.length kg, .slice Ah LB.length kh] 27)
            have hs7 := Kd.R_alloc (Kd.R_alloc HSP.out (.cells #[.slice Ax X.length kx, .slice Ab B.length kb, .slice A4 l4.length c4, .int .i64 (X.length : Int), .int .i64 nx] 44)) (.cells #[.slice Ag RS.length kg, .slice Ah LB.length kh] 27)
            have hB7 := (HB.out.alloc (below_size HB.out) (.cells #[.slice Ax X.length kx, .slice Ab B.length kb, .slice A4 l4.length c4, .int .i64 (X.length : Int), .int .i64 nx] 44)).alloc (by rw [World.size_alloc]; have := below_size HB.out; omega) (.cells #[.slice Ag RS.length kg, .slice Ah LB.length kh] 27)
            generalize w6.heap.size + 1 = gI at bI ⊢
            generalize (w6.alloc (.cells #[.slice Ax X.length kx, .slice Ab B.length kb, .slice A4 l4.length c4, .int .i64 (X.length : Int), .int .i64 nx] 44)).alloc (.cells #[.slice Ag RS.length kg, .slice Ah LB.length kh] 27) = W7 at bI bT hm7 hx7 hb7 hs7 hB7 ⊢
            clear HM HX HBB HSP BT HB
            have HM := Aside0.mk hm7
            have HX := Aside0.mk hx7
            have HBB := Aside0.mk hb7
            have HSP := Aside0.mk hs7
            have HB := Aside0.mk hB7
            have BI := Aside0.mk bI
            have BT := Aside0.mk bT
            clear hm7 hx7 hb7 hs7 hB7 bI bT
            have cI_0 : W7.cell? ⟨gI, 0, none⟩ = some (.slice Ag RS.length kg) := (blk_cell BI.out 0).trans rfl
            have cI_1 : W7.cell? ⟨gI, 1, none⟩ = some (.slice Ah LB.length kh) := (blk_cell BI.out 1).trans rfl
            have cT_1 : W7.cell? ⟨gT, 1, none⟩ = some (.slice Ab B.length kb) := (blk_cell BT.out 1).trans rfl
            have HS1 : Aside0 (mudlarkref06_Same.f 100 RS LB RS LB = some true) := ⟨Same_self RS LB (by have := HLn.out; omega) 100 (by have := HLn.out; omega)⟩
            have HS2 : Aside0 (mudlarkref06_Same.f 100 [] B [] B = some true) := ⟨Same_self [] B (by have := HXB.out; omega) 100 (by have := HXB.out; omega)⟩
            go_region_held3 (fun w' => w'.cell? ⟨gI, 0, none⟩ = some (.slice Ag RS.length kg) ∧ w'.cell? ⟨gI, 1, none⟩ = some (.slice Ah LB.length kh) ∧ w'.cell? ⟨gT, 1, none⟩ = some (.slice Ab B.length kb)) (go_keep) (first | (go_at_call 19; have hmd := HM.out.below (below_drew1 (Below.refl W7.heap.size W7)); refine (HGA.out _ _ hmd).mono ?_; rintro e w8 ⟨va, vb2, rfl, ha, hb2, _, hg⟩; obtain ⟨Aa, ka, rfl⟩ := Kd.R_slice ha; obtain ⟨Ab2, kb2, rfl⟩ := Kd.R_slice hb2; have hk_ := hmd.2.2.2.1; have n0_ := Aside0.mk (Kd.R_other (Kd.R_drew HX.out) hk_ (by decide) hg); have n1_ := Aside0.mk (Kd.R_other (Kd.R_drew HBB.out) hk_ (by decide) hg); have n2_ := Aside0.mk (Kd.R_other (Kd.R_drew HSP.out) hk_ (by decide) hg); have n3_ := Aside0.mk (blk_grown (blk_drew BI.out) hg (fun e => blk_ne (blk_drew BI.out) hk_ (by decide) (by cases e; rfl))); have n4_ := Aside0.mk (blk_grown (blk_drew BT.out) hg (fun e => blk_ne (blk_drew BT.out) hk_ (by decide) (by cases e; rfl))); have n5_ := Aside0.mk ((below_drew1 HB.out).grown hg (below_size (below_drew1 HB.out)) (fun k e => by cases e; exact HM.out.2.2.2.2)); clear HX HBB HSP BI BT HB HM hmd hk_ hg; have HX := n0_; have HBB := n1_; have HSP := n2_; have BI := n3_; have BT := n4_; have HB := n5_; have HA := Aside0.mk ha; have HA2 := Aside0.mk hb2; clear n0_ n1_ n2_ n3_ n4_ n5_ ha hb2; have cI_0 : w8.cell? ⟨gI, 0, none⟩ = some (.slice Ag RS.length kg) := (blk_cell BI.out 0).trans rfl; have cI_1 : w8.cell? ⟨gI, 1, none⟩ = some (.slice Ah LB.length kh) := (blk_cell BI.out 1).trans rfl; have cT_1 : w8.cell? ⟨gT, 1, none⟩ = some (.slice Ab B.length kb) := (blk_cell BT.out 1).trans rfl) | (go_at_call 12; (have hq_ := mudlarkref06_Same.calls 100 Aa ka RS Ab2 kb2 LB Ag kg RS Ah kh LB true _ (Kd.R_reads' HA.out).2.2 (Kd.R_reads' HA.out).2.1 (Kd.R_reads' HA2.out).2.2 (Kd.R_reads' HA2.out).2.1 (G1.out _ (Kd.R_reads' HX.out).2.2) G2.out (G3.out _ (Kd.R_reads' HBB.out).2.2) G4.out HS1.out); refine hq_.mono ?_; clear hq_; rintro e w9 ⟨rfl, hb⟩; clear HA HA2; have n0_ := Aside0.mk (Kd.R_below HX.out hb); have n1_ := Aside0.mk (Kd.R_below HBB.out hb); have n2_ := Aside0.mk (Kd.R_below HSP.out hb); have n3_ := Aside0.mk (blk_below BI.out hb); have n4_ := Aside0.mk (blk_below BT.out hb); have n5_ := Aside0.mk (below_step HB.out hb); clear HX HBB HSP BI BT HB; have HX := n0_; have HBB := n1_; have HSP := n2_; have BI := n3_; have BT := n4_; have HB := n5_; clear n0_ n1_ n2_ n3_ n4_ n5_ hb; have cI_0 : w9.cell? ⟨gI, 0, none⟩ = some (.slice Ag RS.length kg) := (blk_cell BI.out 0).trans rfl; have cI_1 : w9.cell? ⟨gI, 1, none⟩ = some (.slice Ah LB.length kh) := (blk_cell BI.out 1).trans rfl; have cT_1 : w9.cell? ⟨gT, 1, none⟩ = some (.slice Ab B.length kb) := (blk_cell BT.out 1).trans rfl) | (go_at_call 12; (have hq_ := mudlarkref06_Same.calls 100 none 0 [] As ks B none 0 [] Ab kb B true _ (Kd.C_nil _ _) (Nat.le_refl _) (Kd.R_reads' HSP.out).2.2 (Kd.R_reads' HSP.out).2.1 (Kd.C_nil _ _) (Nat.le_refl _) (Kd.R_reads' HBB.out).2.2 (Kd.R_reads' HBB.out).2.1 HS2.out); refine hq_.mono ?_; clear hq_; rintro e wz ⟨rfl, hb⟩; have n0_ := Aside0.mk (Kd.R_below HX.out hb); have n1_ := Aside0.mk (Kd.R_below HBB.out hb); have n2_ := Aside0.mk (Kd.R_below HSP.out hb); have n3_ := Aside0.mk (blk_below BI.out hb); have n4_ := Aside0.mk (blk_below BT.out hb); have n5_ := Aside0.mk (below_step HB.out hb); clear HX HBB HSP BI BT HB; have HX := n0_; have HBB := n1_; have HSP := n2_; have BI := n3_; have BT := n4_; have HB := n5_; clear n0_ n1_ n2_ n3_ n4_ n5_ hb; have cI_0 : wz.cell? ⟨gI, 0, none⟩ = some (.slice Ag RS.length kg) := (blk_cell BI.out 0).trans rfl; have cI_1 : wz.cell? ⟨gI, 1, none⟩ = some (.slice Ah LB.length kh) := (blk_cell BI.out 1).trans rfl; have cT_1 : wz.cell? ⟨gT, 1, none⟩ = some (.slice Ab B.length kb) := (blk_cell BT.out 1).trans rfl))
            all_goals go_wp2
            all_goals go_ret
            all_goals exact ⟨by first | rfl | simp, HB.out⟩
    · have cv1 : (ev == 0) = false := beq_eq_false_iff_ne.mpr cv
      have cv2 : (ev = 0) = False := eq_false cv
      clear cv
      go_enter Try.func7, Try.ntmps7
      go_wp2_with (first | (go_at_call 9; refine (mudlarklaw06_known.calls 5 true _ HKN.out).mono ?_; rintro e w0_ ⟨rfl, hb⟩; have n1_ := Aside0.mk (below_step HB.out hb); clear HB; have HB := n1_; clear n1_ hb) | (go_at_call 11; refine (mudlarklaw06_Bytes.calls 4000 _ _ l0 a1 y _ (Kd.C_below HR0.out HB.out) HC0.out HY.out).mono ?_; rintro e w1 ⟨vy, rfl, ho, hb⟩; obtain ⟨Ay, ky, rfl⟩ := Kd.R_slice ho; have n0_ := Aside0.mk (Kd.R_lower ho (below_size HB.out)); have n1_ := Aside0.mk (below_step HB.out hb); clear HB; have HO1 := n0_; have HB := n1_; clear n0_ n1_ ho hb) | (go_at_call 17; refine (HNew.out _ HB.out Ay ky (Kd.R_reads' HO1.out).2.2 (Kd.R_reads' HO1.out).2.1).mono ?_; rintro e w2 ⟨g, rfl, ⟨v0, v1, v2, hm⟩, hb⟩; have n0_ := Aside0.mk (hm.lower (below_size HB.out)); have n1_ := Aside0.mk (Kd.R_below HO1.out hb); have n2_ := Aside0.mk (below_step HB.out hb); clear HB HO1; have HM := n0_; have HO1 := n1_; have HB := n2_; clear n0_ n1_ n2_ hm hb) | (go_at_call 20; have HBo := Aside0.mk (below_size HB.out); refine (HRNew.out _ HB.out Ay ky (Kd.R_reads' HO1.out).2.2 (Kd.R_reads' HO1.out).2.1).mono ?_; rintro e w3 ⟨vx, vb, rfl, hx, hbb, hb⟩; obtain ⟨Ax, kx, rfl⟩ := Kd.R_slice hx; obtain ⟨Ab, kb, rfl⟩ := Kd.R_slice hbb; have n0_ := Aside0.mk (HM.out.below hb); have n2_ := Aside0.mk (below_step HB.out hb); have n3_ := Aside0.mk (Kd.R_lower hx HBo.out); have n4_ := Aside0.mk (Kd.R_lower hbb HBo.out); clear HB HO1 HM HBo; have HM := n0_; have HB := n2_; have HX := n3_; have HBB := n4_; clear n0_ n2_ n3_ n4_ hx hbb hb))
      have bt := heap_alloc_new w3 (.cells #[.slice Ax X.length kx, .slice Ab B.length kb, .slice A4 l4.length c4, .int .i64 0, .int .i64 0] 44)
      have gt := below_size HB.out
      have n0_ := Aside0.mk (HM.out.below ((Below.refl _ w3).alloc (Nat.le_refl _) (.cells #[.slice Ax X.length kx, .slice Ab B.length kb, .slice A4 l4.length c4, .int .i64 0, .int .i64 0] 44)))
      have n1_ := Aside0.mk (Kd.R_alloc HX.out (.cells #[.slice Ax X.length kx, .slice Ab B.length kb, .slice A4 l4.length c4, .int .i64 0, .int .i64 0] 44))
      have n2_ := Aside0.mk (Kd.R_alloc HBB.out (.cells #[.slice Ax X.length kx, .slice Ab B.length kb, .slice A4 l4.length c4, .int .i64 0, .int .i64 0] 44))
      have n3_ := Aside0.mk (HB.out.alloc (below_size HB.out) (.cells #[.slice Ax X.length kx, .slice Ab B.length kb, .slice A4 l4.length c4, .int .i64 0, .int .i64 0] 44))
      generalize w3.heap.size = gT at bt gt ⊢
      generalize w3.alloc (.cells #[.slice Ax X.length kx, .slice Ab B.length kb, .slice A4 l4.length c4, .int .i64 0, .int .i64 0] 44) = W3 at bt n0_ n1_ n2_ n3_ ⊢
      have GT := Aside0.mk gt
      have BT0 := Aside0.mk bt
      clear gt bt HM HX HBB HB
      go_loopg [18] 30 (fun kq v18 w' => ∃ (i pl nx : Int), v18 = .int .i64 i ∧ Aside0 (i + (kq : Int) = 30 ∧ 0 ≤ i ∧ i ≤ K) ∧ Aside0 (0 ≤ pl ∧ pl ≤ (X.length : Int) ∧ NxOk l4 nx) ∧ Aside0 (MedV w' w.heap.size g v0 v1 v2 X B l4 pl nx) ∧ Aside0 (Kd.R (Kd.int .u8) 5 w' w.heap.size (fun _ => True) (.slice Ax X.length kx) X) ∧ Aside0 (Kd.R (Kd.int .i64) 3 w' w.heap.size (fun _ => True) (.slice Ab B.length kb) B) ∧ Aside0 (w'.heap[gT]? = some (.cells #[.slice Ax X.length kx, .slice Ab B.length kb, .slice A4 l4.length c4, .int .i64 pl, .int .i64 nx] 44 (0, 0))) ∧ Aside0 (Below w.heap.size w w'))
      case atStart => exact ⟨0, 0, 0, rfl, ⟨by have := HK0.out; omega⟩, ⟨by decide, by omega, by unfold NxOk; by_cases h : l4 = []; exact .inl h; exact .inr ⟨by decide, by have := List.length_pos_iff.2 h; omega⟩⟩, n0_, n1_, n2_, BT0, n3_⟩
      case round =>
        obtain ⟨i, pl, nx, rfl, HI, HPP, HM, HX, HBB, BT, HB⟩ := hrel
        cases gk with
        | zero => exact absurd HI.out (by have := HK1.out; have := HI.out; omega)
        | succ k4 =>
          by_cases ci : i < K
          · have ci1 : decide (i < K) = true := decide_eq_true ci
            have HCI := Aside0.mk ci
            clear ci
            by_cases ce : pl = (X.length : Int)
            · subst ce
              go_upto_region 13 with (first | (go_at_call 18; refine (medium_Read.done _ w.heap.size g X B l4 nx ⟨_, _, _, HM.out⟩).mono ?_; rintro e w5 ⟨rfl, hb⟩; have n0_ := Aside0.mk (HM.out.below hb); have n1_ := Aside0.mk (Kd.R_below HX.out hb); have n2_ := Aside0.mk (Kd.R_below HBB.out hb); have n3_ := Aside0.mk (blk_below BT.out hb); have n4_ := Aside0.mk (below_step HB.out hb); clear HM HX HBB BT HB; have HM := n0_; have HX := n1_; have HBB := n2_; have BT := n3_; have HB := n4_; clear n0_ n1_ n2_ n3_ n4_ hb; have cgT_0 : w5.cell? ⟨gT, 0, none⟩ = some (.slice Ax X.length kx) := (blk_cell BT.out 0).trans rfl; have cgT_1 : w5.cell? ⟨gT, 1, none⟩ = some (.slice Ab B.length kb) := (blk_cell BT.out 1).trans rfl; have cgT_2 : w5.cell? ⟨gT, 2, none⟩ = some (.slice A4 l4.length c4) := (blk_cell BT.out 2).trans rfl; have cgT_3 : w5.cell? ⟨gT, 3, none⟩ = some (.int .i64 (X.length : Int)) := (blk_cell BT.out 3).trans rfl; have cgT_4 : w5.cell? ⟨gT, 4, none⟩ = some (.int .i64 nx) := (blk_cell BT.out 4).trans rfl) | (go_at_call 21; refine (mudlarkref06_Read.done _ _ _ _ Ax X.length kx nx rfl ⟨_, _, _, rfl⟩ ⟨_, _, _, rfl⟩ (by have := HXB.out; omega)).mono ?_; rintro e w6 ⟨rfl, hb⟩; have n0_ := Aside0.mk (HM.out.below hb); have n1_ := Aside0.mk (Kd.R_below HX.out hb); have n2_ := Aside0.mk (Kd.R_below HBB.out hb); have n3_ := Aside0.mk (blk_below BT.out hb); have n4_ := Aside0.mk (below_step HB.out hb); clear HM HX HBB BT HB; have HM := n0_; have HX := n1_; have HBB := n2_; have BT := n3_; have HB := n4_; clear n0_ n1_ n2_ n3_ n4_ hb; clear cgT_0 cgT_1 cgT_2 cgT_3 cgT_4))
              have bU := heap_alloc_new w6 (.cells #[.slice Ax X.length kx, .slice Ab B.length kb, .slice A4 l4.length c4, .int .i64 (X.length : Int), .int .i64 nx] 44)
              have bT := blk_alloc BT.out (.cells #[.slice Ax X.length kx, .slice Ab B.length kb, .slice A4 l4.length c4, .int .i64 (X.length : Int), .int .i64 nx] 44)
              have hm7 := HM.out.below ((Below.refl _ w6).alloc (Nat.le_refl _) (.cells #[.slice Ax X.length kx, .slice Ab B.length kb, .slice A4 l4.length c4, .int .i64 (X.length : Int), .int .i64 nx] 44))
              have hx7 := Kd.R_alloc HX.out (.cells #[.slice Ax X.length kx, .slice Ab B.length kb, .slice A4 l4.length c4, .int .i64 (X.length : Int), .int .i64 nx] 44)
              have hb7 := Kd.R_alloc HBB.out (.cells #[.slice Ax X.length kx, .slice Ab B.length kb, .slice A4 l4.length c4, .int .i64 (X.length : Int), .int .i64 nx] 44)
              have hB7 := HB.out.alloc (below_size HB.out) (.cells #[.slice Ax X.length kx, .slice Ab B.length kb, .slice A4 l4.length c4, .int .i64 (X.length : Int), .int .i64 nx] 44)
              have nTU := Nat.ne_of_lt (blk_lt BT.out)
              generalize w6.heap.size = gU at bU nTU ⊢
              generalize w6.alloc (.cells #[.slice Ax X.length kx, .slice Ab B.length kb, .slice A4 l4.length c4, .int .i64 (X.length : Int), .int .i64 nx] 44) = W6 at bU bT hm7 hx7 hb7 hB7 ⊢
              have cgU_0 : W6.cell? ⟨gU, 0, none⟩ = some (.slice Ax X.length kx) := (blk_cell bU 0).trans rfl
              have cgU_1 : W6.cell? ⟨gU, 1, none⟩ = some (.slice Ab B.length kb) := (blk_cell bU 1).trans rfl
              have cgU_2 : W6.cell? ⟨gU, 2, none⟩ = some (.slice A4 l4.length c4) := (blk_cell bU 2).trans rfl
              have cgU_3 : W6.cell? ⟨gU, 3, none⟩ = some (.int .i64 (X.length : Int)) := (blk_cell bU 3).trans rfl
              have cgU_4 : W6.cell? ⟨gU, 4, none⟩ = some (.int .i64 nx) := (blk_cell bU 4).trans rfl
              have cgT_0 : W6.cell? ⟨gT, 0, none⟩ = some (.slice Ax X.length kx) := (blk_cell bT 0).trans rfl
              have cgT_1 : W6.cell? ⟨gT, 1, none⟩ = some (.slice Ab B.length kb) := (blk_cell bT 1).trans rfl
              have cgT_2 : W6.cell? ⟨gT, 2, none⟩ = some (.slice A4 l4.length c4) := (blk_cell bT 2).trans rfl
              have cgT_3 : W6.cell? ⟨gT, 3, none⟩ = some (.int .i64 (X.length : Int)) := (blk_cell bT 3).trans rfl
              have cgT_4 : W6.cell? ⟨gT, 4, none⟩ = some (.int .i64 nx) := (blk_cell bT 4).trans rfl
              have fgT_0 := blk_frozen bT 0
              have fgT_1 := blk_frozen bT 1
              have fgT_2 := blk_frozen bT 2
              have fgT_3 := blk_frozen bT 3
              have fgT_4 := blk_frozen bT 4
              have NTU := Aside0.mk nTU
              have BT6 := Aside0.mk bT
              have BU6 := Aside0.mk bU
              have HM6 := Aside0.mk hm7
              have HX6 := Aside0.mk hx7
              have HBB6 := Aside0.mk hb7
              have HB6 := Aside0.mk hB7
              clear nTU bT bU hm7 hx7 hb7 hB7 HM HX HBB HB BT
              go_upto_region 14 with (first | fail)
              have t0 := blk_put BT6.out 0 (.slice Ax X.length kx) rfl
              have t1 := blk_put t0 1 (.slice Ab B.length kb) rfl
              have t2 := blk_put t1 2 (.slice A4 l4.length c4) rfl
              have t3 := blk_put t2 3 (.int .i64 (X.length : Int)) rfl
              have t4 := blk_put t3 4 (.int .i64 nx) rfl
              have hgT := ((((grown_setCell W6 gT 0 (.slice Ax X.length kx)).trans (grown_setCell _ gT 1 (.slice Ab B.length kb))).trans (grown_setCell _ gT 2 (.slice A4 l4.length c4))).trans (grown_setCell _ gT 3 (.int .i64 (X.length : Int)))).trans (grown_setCell _ gT 4 (.int .i64 nx))
              have hm8 := HM6.out.other BT6.out (by decide) (by decide) (by decide) hgT
              have hx8 := Kd.R_other HX6.out BT6.out (by decide) hgT
              have hb8 := Kd.R_other HBB6.out BT6.out (by decide) hgT
              have hB8 := HB6.out.grown hgT (below_size HB6.out) (fun k e => by cases e; exact GT.out)
              clear hgT t0 t1 t2 t3 cgU_0 cgU_1 cgU_2 cgU_3 cgU_4 cgT_0 cgT_1 cgT_2 cgT_3 cgT_4 fgT_0 fgT_1 fgT_2 fgT_3 fgT_4
              generalize ((((W6.setCell ⟨gT, 0, none⟩ (.slice Ax X.length kx)).setCell ⟨gT, 1, none⟩ (.slice Ab B.length kb)).setCell ⟨gT, 2, none⟩ (.slice A4 l4.length c4)).setCell ⟨gT, 3, none⟩ (.int .i64 (X.length : Int))).setCell ⟨gT, 4, none⟩ (.int .i64 nx) = W7 at t4 hm8 hx8 hb8 hB8 ⊢
              have hcv1 := Kd.C_string (P := Try.prog) (c := 0) Try.underlying22 Try.underlying5 Try.underlying9 (show Kd.C (Kd.int .u8) W7 none 0 [] from Kd.C_nil _ _)
              go_wp2
              go_roundg k4
              case measure => omega
              case rel =>
                have hI := HI.out; have hCI := HCI.out; have hK1 := HK1.out
                exact ⟨i + 1, (X.length : Int), nx, by rw [wrap64_id (i + 1) (by omega) (by omega)], ⟨by omega⟩, HPP, ⟨hm8⟩, ⟨hx8⟩, ⟨hb8⟩, ⟨t4⟩, ⟨hB8⟩⟩
            · have HPL : Aside0 (pl < (X.length : Int)) := ⟨by have := HPP.out; omega⟩
              have hto := toM_ok X l4 pl nx HPP.out.1 HPL.out
              obtain ⟨T, hT⟩ : ∃ T, T = toM X l4 pl nx := ⟨_, rfl⟩
              obtain ⟨NX, hNX⟩ : ∃ NX, NX = nextM l4 nx := ⟨_, rfl⟩
              obtain ⟨OUT, hOUT⟩ : ∃ OUT, OUT = (X.take T.toNat).drop pl.toNat := ⟨_, rfl⟩
              have HNK : Aside0 (NxOk l4 NX) := ⟨by rw [hNX]; exact nextM_ok l4 nx HPP.out.2.2⟩
              have HTO : Aside0 (toM X l4 pl nx = T) := ⟨hT.symm⟩
              have HNX : Aside0 (nextM l4 nx = NX) := ⟨hNX.symm⟩
              have HOUT : Aside0 ((X.take T.toNat).drop pl.toNat = OUT) := ⟨hOUT.symm⟩
              have HTT : Aside0 (0 ≤ T ∧ T ≤ (X.length : Int)) := ⟨by rw [hT]; have := HPP.out; omega⟩
              have HRD : Aside0 (∀ W base, MedV W base g v0 v1 v2 X B l4 pl nx → Calls Try.prog 18 #[.pointer (some ⟨g, 0, none⟩)] W fun e w' => ∃ v, e = .returned (.tuple #[v, .bool true]) ∧ Kd.R (Kd.int .u8) 5 w' W.heap.size (fun _ => True) v OUT ∧ MedV w' base g v0 v1 v2 X B l4 T NX ∧ W.grownBy w' (some g)) := ⟨fun W base hm => by
                have h1 := HXB.out; have h2 := HLs.out
                rw [hOUT, hNX, hT]
                exact medium_Read.more W base g X B l4 pl nx v0 v1 v2 hm (by omega) (by omega) HPP.out.1 HPL.out HPP.out.2.2⟩
              clear hto hOUT hT hNX ce
              go_upto_region 13 with (first | (go_at_call 18; refine (HRD.out _ _ HM.out).mono ?_; rintro e w5 ⟨v9, rfl, ho, hm1, hg1⟩; obtain ⟨A9, k9, rfl⟩ := Kd.R_slice ho; have hk_ := HM.out.2.2.2.1; have n0_ := Aside0.mk hm1; have n1_ := Aside0.mk (Kd.R_other HX.out hk_ (by decide) hg1); have n2_ := Aside0.mk (Kd.R_other HBB.out hk_ (by decide) hg1); have n3_ := Aside0.mk (blk_grown BT.out hg1 (fun e => blk_ne BT.out hk_ (by decide) (by cases e; rfl))); have n4_ := Aside0.mk (HB.out.grown hg1 (below_size HB.out) (fun k e => by cases e; exact HM.out.2.2.2.2)); clear HM HX HBB BT HB hk_; have HM := n0_; have HX := n1_; have HBB := n2_; have BT := n3_; have HB := n4_; have H9 := Aside0.mk ho; clear n0_ n1_ n2_ n3_ n4_ ho hm1 hg1; have cgT_0 : w5.cell? ⟨gT, 0, none⟩ = some (.slice Ax X.length kx) := (blk_cell BT.out 0).trans rfl; have cgT_1 : w5.cell? ⟨gT, 1, none⟩ = some (.slice Ab B.length kb) := (blk_cell BT.out 1).trans rfl; have cgT_2 : w5.cell? ⟨gT, 2, none⟩ = some (.slice A4 l4.length c4) := (blk_cell BT.out 2).trans rfl; have cgT_3 : w5.cell? ⟨gT, 3, none⟩ = some (.int .i64 pl) := (blk_cell BT.out 3).trans rfl; have cgT_4 : w5.cell? ⟨gT, 4, none⟩ = some (.int .i64 nx) := (blk_cell BT.out 4).trans rfl) | (go_at_call 21; refine (mudlarkref06_Read.more _ Ax Ab A4 kx B.length kb c4 X l4 pl nx (Kd.R_reads' HX.out).2.2 (Kd.R_reads' HX.out).2.1 (Kd.C_below HR4.out HB.out) (by have := HXB.out; omega) (by have := HLs.out; omega) HPP.out.1 (by have := HPP.out; have := HPL.out; omega) HPP.out.2.2).mono ?_; rintro e w6 ⟨A8, k8, he, hp, hb⟩; rw [HTO.out, HNX.out, HOUT.out] at he; rw [HTO.out, HOUT.out] at hp; subst he; have n0_ := Aside0.mk (HM.out.below hb); have n1_ := Aside0.mk (Kd.R_below HX.out hb); have n2_ := Aside0.mk (Kd.R_below HBB.out hb); have n3_ := Aside0.mk (blk_below BT.out hb); have n4_ := Aside0.mk (below_step HB.out hb); have n5_ := Aside0.mk (Kd.R_below H9.out hb); have H8 := Aside0.mk hp; clear HM HX HBB BT HB H9; have HM := n0_; have HX := n1_; have HBB := n2_; have BT := n3_; have HB := n4_; have H9 := n5_; clear n0_ n1_ n2_ n3_ n4_ n5_ hp hb; clear cgT_0 cgT_1 cgT_2 cgT_3 cgT_4))
              have bU := heap_alloc_new w6 (.cells #[.slice Ax X.length kx, .slice Ab B.length kb, .slice A4 l4.length c4, .int .i64 T, .int .i64 NX] 44)
              have bT := blk_alloc BT.out (.cells #[.slice Ax X.length kx, .slice Ab B.length kb, .slice A4 l4.length c4, .int .i64 T, .int .i64 NX] 44)
              have hm7 := HM.out.below ((Below.refl _ w6).alloc (Nat.le_refl _) (.cells #[.slice Ax X.length kx, .slice Ab B.length kb, .slice A4 l4.length c4, .int .i64 T, .int .i64 NX] 44))
              have hx7 := Kd.R_alloc HX.out (.cells #[.slice Ax X.length kx, .slice Ab B.length kb, .slice A4 l4.length c4, .int .i64 T, .int .i64 NX] 44)
              have hb7 := Kd.R_alloc HBB.out (.cells #[.slice Ax X.length kx, .slice Ab B.length kb, .slice A4 l4.length c4, .int .i64 T, .int .i64 NX] 44)
              have hB7 := HB.out.alloc (below_size HB.out) (.cells #[.slice Ax X.length kx, .slice Ab B.length kb, .slice A4 l4.length c4, .int .i64 T, .int .i64 NX] 44)
              have nTU := Nat.ne_of_lt (blk_lt BT.out)
              have h97 := Kd.R_alloc H9.out (.cells #[.slice Ax X.length kx, .slice Ab B.length kb, .slice A4 l4.length c4, .int .i64 T, .int .i64 NX] 44)
              generalize w6.heap.size = gU at bU nTU ⊢
              generalize w6.alloc (.cells #[.slice Ax X.length kx, .slice Ab B.length kb, .slice A4 l4.length c4, .int .i64 T, .int .i64 NX] 44) = W6 at bU bT hm7 hx7 hb7 hB7 h97 ⊢
              have cgU_0 : W6.cell? ⟨gU, 0, none⟩ = some (.slice Ax X.length kx) := (blk_cell bU 0).trans rfl
              have cgU_1 : W6.cell? ⟨gU, 1, none⟩ = some (.slice Ab B.length kb) := (blk_cell bU 1).trans rfl
              have cgU_2 : W6.cell? ⟨gU, 2, none⟩ = some (.slice A4 l4.length c4) := (blk_cell bU 2).trans rfl
              have cgU_3 : W6.cell? ⟨gU, 3, none⟩ = some (.int .i64 T) := (blk_cell bU 3).trans rfl
              have cgU_4 : W6.cell? ⟨gU, 4, none⟩ = some (.int .i64 NX) := (blk_cell bU 4).trans rfl
              have cgT_0 : W6.cell? ⟨gT, 0, none⟩ = some (.slice Ax X.length kx) := (blk_cell bT 0).trans rfl
              have cgT_1 : W6.cell? ⟨gT, 1, none⟩ = some (.slice Ab B.length kb) := (blk_cell bT 1).trans rfl
              have cgT_2 : W6.cell? ⟨gT, 2, none⟩ = some (.slice A4 l4.length c4) := (blk_cell bT 2).trans rfl
              have cgT_3 : W6.cell? ⟨gT, 3, none⟩ = some (.int .i64 pl) := (blk_cell bT 3).trans rfl
              have cgT_4 : W6.cell? ⟨gT, 4, none⟩ = some (.int .i64 nx) := (blk_cell bT 4).trans rfl
              have fgT_0 := blk_frozen bT 0
              have fgT_1 := blk_frozen bT 1
              have fgT_2 := blk_frozen bT 2
              have fgT_3 := blk_frozen bT 3
              have fgT_4 := blk_frozen bT 4
              have NTU := Aside0.mk nTU
              have BT6 := Aside0.mk bT
              have BU6 := Aside0.mk bU
              have HM6 := Aside0.mk hm7
              have HX6 := Aside0.mk hx7
              have HBB6 := Aside0.mk hb7
              have HB6 := Aside0.mk hB7
              have H96 := Aside0.mk h97
              clear h97
              clear nTU bT bU hm7 hx7 hb7 hB7 HM HX HBB HB BT
              go_upto_region 14 with (first | fail)
              have t0 := blk_put BT6.out 0 (.slice Ax X.length kx) rfl
              have t1 := blk_put t0 1 (.slice Ab B.length kb) rfl
              have t2 := blk_put t1 2 (.slice A4 l4.length c4) rfl
              have t3 := blk_put t2 3 (.int .i64 T) rfl
              have t4 := blk_put t3 4 (.int .i64 NX) rfl
              have hgT := ((((grown_setCell W6 gT 0 (.slice Ax X.length kx)).trans (grown_setCell _ gT 1 (.slice Ab B.length kb))).trans (grown_setCell _ gT 2 (.slice A4 l4.length c4))).trans (grown_setCell _ gT 3 (.int .i64 T))).trans (grown_setCell _ gT 4 (.int .i64 NX))
              have hm8 := HM6.out.other BT6.out (by decide) (by decide) (by decide) hgT
              have hx8 := Kd.R_other HX6.out BT6.out (by decide) hgT
              have hb8 := Kd.R_other HBB6.out BT6.out (by decide) hgT
              have hB8 := HB6.out.grown hgT (below_size HB6.out) (fun k e => by cases e; exact GT.out)
              have h98 := Kd.R_other H96.out BT6.out (by decide) hgT
              clear hgT t0 t1 t2 t3 cgU_0 cgU_1 cgU_2 cgU_3 cgU_4 cgT_0 cgT_1 cgT_2 cgT_3 cgT_4 fgT_0 fgT_1 fgT_2 fgT_3 fgT_4
              generalize ((((W6.setCell ⟨gT, 0, none⟩ (.slice Ax X.length kx)).setCell ⟨gT, 1, none⟩ (.slice Ab B.length kb)).setCell ⟨gT, 2, none⟩ (.slice A4 l4.length c4)).setCell ⟨gT, 3, none⟩ (.int .i64 T)).setCell ⟨gT, 4, none⟩ (.int .i64 NX) = W7 at t4 hm8 hx8 hb8 hB8 h98 ⊢
              have hcv1 := own_string (P := Try.prog) Try.underlying22 Try.underlying5 Try.underlying9 (Kd.own_of_R h98)
              have hcv2 := Kd.C_string (P := Try.prog) (c := k8) Try.underlying22 Try.underlying5 Try.underlying9 (H8.out W7 (Kd.R_reads' hx8).2.2)
              go_wp2
              go_roundg k4
              case measure => omega
              case rel =>
                have hI := HI.out; have hCI := HCI.out; have hK1 := HK1.out
                exact ⟨i + 1, T, NX, by rw [wrap64_id (i + 1) (by omega) (by omega)], ⟨by omega⟩, ⟨by have := HTT.out; omega, by have := HTT.out; omega, HNK.out⟩, ⟨hm8⟩, ⟨hx8⟩, ⟨hb8⟩, ⟨t4⟩, ⟨hB8⟩⟩
          · have ci1 : decide (i < K) = false := decide_eq_false ci
            clear ci
            obtain ⟨RS, hRS⟩ : ∃ RS, RS = X.drop pl.toNat := ⟨_, rfl⟩
            obtain ⟨LB, hLB⟩ : ∃ LB, LB = (if pl = 0 then B else []) := ⟨_, rfl⟩
            have HRS : Aside0 (X.drop pl.toNat = RS) := ⟨hRS.symm⟩
            have HLB : Aside0 ((if pl = 0 then B else []) = LB) := ⟨hLB.symm⟩
            have HLn : Aside0 (RS.length ≤ 3000 ∧ LB.length ≤ 30) := ⟨by rw [hRS, hLB, List.length_drop]; have := HXB.out; constructor; omega; split; omega; simp⟩
            have HGA : Aside0 (∀ W base, MedV W base g v0 v1 v2 X B l4 pl nx → Calls Try.prog 19 #[.pointer (some ⟨g, 0, none⟩)] W fun e w' => ∃ a b, e = .returned (.agg #[a, b]) ∧ Kd.R (Kd.int .u8) 5 w' W.heap.size (fun _ => True) a RS ∧ Kd.R (Kd.int .i64) 3 w' W.heap.size (fun _ => True) b LB ∧ (∃ nx, MedV w' base g v0 v1 v2 X B l4 (X.length : Int) nx ∧ NxOk l4 nx) ∧ W.grownBy w' (some g)) := ⟨fun W base hm => by
              have h1 := HXB.out; have h2 := HLs.out
              rw [hRS, hLB]
              exact medium_Gather.calls W base g v0 v1 v2 X B l4 pl nx hm (by omega) (by omega) (by omega) HPP.out.1 HPP.out.2.1 HPP.out.2.2⟩
            clear hRS hLB
            go_upto_region 18 with (first | (go_at_call 22; have HBo := Aside0.mk (below_size HB.out); refine (medium_Spoilt.calls _ w.heap.size g X B l4 pl nx ⟨_, _, _, HM.out⟩ (by have := HXB.out; omega)).mono ?_; rintro e w5 ⟨vs, rfl, hs, hb⟩; obtain ⟨As, ks, rfl⟩ := Kd.R_slice hs; have n0_ := Aside0.mk (HM.out.below hb); have n1_ := Aside0.mk (Kd.R_below HX.out hb); have n2_ := Aside0.mk (Kd.R_below HBB.out hb); have n3_ := Aside0.mk (blk_below BT.out hb); have n4_ := Aside0.mk (below_step HB.out hb); have n5_ := Aside0.mk (Kd.R_lower hs HBo.out); clear HM HX HBB BT HB HBo; have HM := n0_; have HX := n1_; have HBB := n2_; have BT := n3_; have HB := n4_; have HSP := n5_; clear n0_ n1_ n2_ n3_ n4_ n5_ hs hb; have cT_0 : w5.cell? ⟨gT, 0, none⟩ = some (.slice Ax X.length kx) := (blk_cell BT.out 0).trans rfl; have cT_1 : w5.cell? ⟨gT, 1, none⟩ = some (.slice Ab B.length kb) := (blk_cell BT.out 1).trans rfl; have cT_2 : w5.cell? ⟨gT, 2, none⟩ = some (.slice A4 l4.length c4) := (blk_cell BT.out 2).trans rfl; have cT_3 : w5.cell? ⟨gT, 3, none⟩ = some (.int .i64 pl) := (blk_cell BT.out 3).trans rfl; have cT_4 : w5.cell? ⟨gT, 4, none⟩ = some (.int .i64 nx) := (blk_cell BT.out 4).trans rfl) | (go_at_call 23; refine (mudlarkref06_Gather.calls _ Ax Ab A4 kx kb l4.length c4 X B pl nx (Kd.R_reads' HX.out).2.2 (Kd.R_reads' HX.out).2.1 (Kd.R_reads' HBB.out).2.2 (Kd.R_reads' HBB.out).2.1 HPP.out.1 HPP.out.2.1).mono ?_; rintro e w6 ⟨Ag, kg, Ah, kh, he, hg1, hg2, hg3, hg4, hb⟩; rw [HRS.out, HLB.out] at he; rw [HRS.out] at hg1 hg2; rw [HLB.out] at hg3 hg4; subst he; have n0_ := Aside0.mk (HM.out.below hb); have n1_ := Aside0.mk (Kd.R_below HX.out hb); have n2_ := Aside0.mk (Kd.R_below HBB.out hb); have n3_ := Aside0.mk (blk_below BT.out hb); have n4_ := Aside0.mk (below_step HB.out hb); have n5_ := Aside0.mk (Kd.R_below HSP.out hb); have G1 := Aside0.mk hg1; have G2 := Aside0.mk hg2; have G3 := Aside0.mk hg3; have G4 := Aside0.mk hg4; clear HM HX HBB BT HB HSP; have HM := n0_; have HX := n1_; have HBB := n2_; have BT := n3_; have HB := n4_; have HSP := n5_; clear n0_ n1_ n2_ n3_ n4_ n5_ hg1 hg2 hg3 hg4 hb; clear cT_0 cT_1 cT_2 cT_3 cT_4))
            have bI := heap_alloc_new (w6.alloc (.cells #[.slice Ax X.length kx, .slice Ab B.length kb, .slice A4 l4.length c4, .int .i64 (X.length : Int), .int .i64 nx] 44)) (.cells #[.slice Ag RS.length kg, .slice Ah LB.length kh] 27)
            rw [World.size_alloc] at bI
            have bT := blk_alloc (blk_alloc BT.out (.cells #[.slice Ax X.length kx, .slice Ab B.length kb, .slice A4 l4.length c4, .int .i64 (X.length : Int), .int .i64 nx] 44)) (.cells #[.slice Ag RS.length kg, .slice Ah LB.length kh] 27)
            have hm7 := HM.out.below (((Below.refl w6.heap.size w6).alloc (Nat.le_refl _) (.cells #[.slice Ax X.length kx, .slice Ab B.length kb, .slice A4 l4.length c4, .int .i64 (X.length : Int), .int .i64 nx] 44)).alloc (by rw [World.size_alloc]; omega) (.cells #[.slice Ag RS.length kg, .slice Ah LB.length kh] 27))
            have hx7 := Kd.R_alloc (Kd.R_alloc HX.out (.cells #[.slice Ax X.length kx, .slice Ab B.length kb, .slice A4 l4.length c4, .int .i64 (X.length : Int), .int .i64 nx] 44)) (.cells #[.slice Ag RS.length kg, .slice Ah LB.length kh] 27)
            have hb7 := Kd.R_alloc (Kd.R_alloc HBB.out (.cells #[.slice Ax X.length kx, .slice Ab B.length kb, .slice A4 l4.length c4, .int .i64 (X.length : Int), .int .i64 nx] 44)) (.cells #[.slice Ag RS.length kg, .slice Ah LB.length kh] 27)
            have hs7 := Kd.R_alloc (Kd.R_alloc HSP.out (.cells #[.slice Ax X.length kx, .slice Ab B.length kb, .slice A4 l4.length c4, .int .i64 (X.length : Int), .int .i64 nx] 44)) (.cells #[.slice Ag RS.length kg, .slice Ah LB.length kh] 27)
            have hB7 := (HB.out.alloc (below_size HB.out) (.cells #[.slice Ax X.length kx, .slice Ab B.length kb, .slice A4 l4.length c4, .int .i64 (X.length : Int), .int .i64 nx] 44)).alloc (by rw [World.size_alloc]; have := below_size HB.out; omega) (.cells #[.slice Ag RS.length kg, .slice Ah LB.length kh] 27)
            generalize w6.heap.size + 1 = gI at bI ⊢
            generalize (w6.alloc (.cells #[.slice Ax X.length kx, .slice Ab B.length kb, .slice A4 l4.length c4, .int .i64 (X.length : Int), .int .i64 nx] 44)).alloc (.cells #[.slice Ag RS.length kg, .slice Ah LB.length kh] 27) = W7 at bI bT hm7 hx7 hb7 hs7 hB7 ⊢
            clear HM HX HBB HSP BT HB
            have HM := Aside0.mk hm7
            have HX := Aside0.mk hx7
            have HBB := Aside0.mk hb7
            have HSP := Aside0.mk hs7
            have HB := Aside0.mk hB7
            have BI := Aside0.mk bI
            have BT := Aside0.mk bT
            clear hm7 hx7 hb7 hs7 hB7 bI bT
            have cI_0 : W7.cell? ⟨gI, 0, none⟩ = some (.slice Ag RS.length kg) := (blk_cell BI.out 0).trans rfl
            have cI_1 : W7.cell? ⟨gI, 1, none⟩ = some (.slice Ah LB.length kh) := (blk_cell BI.out 1).trans rfl
            have cT_1 : W7.cell? ⟨gT, 1, none⟩ = some (.slice Ab B.length kb) := (blk_cell BT.out 1).trans rfl
            have HS1 : Aside0 (mudlarkref06_Same.f 100 RS LB RS LB = some true) := ⟨Same_self RS LB (by have := HLn.out; omega) 100 (by have := HLn.out; omega)⟩
            have HS2 : Aside0 (mudlarkref06_Same.f 100 [] B [] B = some true) := ⟨Same_self [] B (by have := HXB.out; omega) 100 (by have := HXB.out; omega)⟩
            go_region_held3 (fun w' => w'.cell? ⟨gI, 0, none⟩ = some (.slice Ag RS.length kg) ∧ w'.cell? ⟨gI, 1, none⟩ = some (.slice Ah LB.length kh) ∧ w'.cell? ⟨gT, 1, none⟩ = some (.slice Ab B.length kb)) (go_keep) (first | (go_at_call 19; have hmd := HM.out.below (below_drew1 (Below.refl W7.heap.size W7)); refine (HGA.out _ _ hmd).mono ?_; rintro e w8 ⟨va, vb2, rfl, ha, hb2, _, hg⟩; obtain ⟨Aa, ka, rfl⟩ := Kd.R_slice ha; obtain ⟨Ab2, kb2, rfl⟩ := Kd.R_slice hb2; have hk_ := hmd.2.2.2.1; have n0_ := Aside0.mk (Kd.R_other (Kd.R_drew HX.out) hk_ (by decide) hg); have n1_ := Aside0.mk (Kd.R_other (Kd.R_drew HBB.out) hk_ (by decide) hg); have n2_ := Aside0.mk (Kd.R_other (Kd.R_drew HSP.out) hk_ (by decide) hg); have n3_ := Aside0.mk (blk_grown (blk_drew BI.out) hg (fun e => blk_ne (blk_drew BI.out) hk_ (by decide) (by cases e; rfl))); have n4_ := Aside0.mk (blk_grown (blk_drew BT.out) hg (fun e => blk_ne (blk_drew BT.out) hk_ (by decide) (by cases e; rfl))); have n5_ := Aside0.mk ((below_drew1 HB.out).grown hg (below_size (below_drew1 HB.out)) (fun k e => by cases e; exact HM.out.2.2.2.2)); clear HX HBB HSP BI BT HB HM hmd hk_ hg; have HX := n0_; have HBB := n1_; have HSP := n2_; have BI := n3_; have BT := n4_; have HB := n5_; have HA := Aside0.mk ha; have HA2 := Aside0.mk hb2; clear n0_ n1_ n2_ n3_ n4_ n5_ ha hb2; have cI_0 : w8.cell? ⟨gI, 0, none⟩ = some (.slice Ag RS.length kg) := (blk_cell BI.out 0).trans rfl; have cI_1 : w8.cell? ⟨gI, 1, none⟩ = some (.slice Ah LB.length kh) := (blk_cell BI.out 1).trans rfl; have cT_1 : w8.cell? ⟨gT, 1, none⟩ = some (.slice Ab B.length kb) := (blk_cell BT.out 1).trans rfl) | (go_at_call 12; (have hq_ := mudlarkref06_Same.calls 100 Aa ka RS Ab2 kb2 LB Ag kg RS Ah kh LB true _ (Kd.R_reads' HA.out).2.2 (Kd.R_reads' HA.out).2.1 (Kd.R_reads' HA2.out).2.2 (Kd.R_reads' HA2.out).2.1 (G1.out _ (Kd.R_reads' HX.out).2.2) G2.out (G3.out _ (Kd.R_reads' HBB.out).2.2) G4.out HS1.out); refine hq_.mono ?_; clear hq_; rintro e w9 ⟨rfl, hb⟩; clear HA HA2; have n0_ := Aside0.mk (Kd.R_below HX.out hb); have n1_ := Aside0.mk (Kd.R_below HBB.out hb); have n2_ := Aside0.mk (Kd.R_below HSP.out hb); have n3_ := Aside0.mk (blk_below BI.out hb); have n4_ := Aside0.mk (blk_below BT.out hb); have n5_ := Aside0.mk (below_step HB.out hb); clear HX HBB HSP BI BT HB; have HX := n0_; have HBB := n1_; have HSP := n2_; have BI := n3_; have BT := n4_; have HB := n5_; clear n0_ n1_ n2_ n3_ n4_ n5_ hb; have cI_0 : w9.cell? ⟨gI, 0, none⟩ = some (.slice Ag RS.length kg) := (blk_cell BI.out 0).trans rfl; have cI_1 : w9.cell? ⟨gI, 1, none⟩ = some (.slice Ah LB.length kh) := (blk_cell BI.out 1).trans rfl; have cT_1 : w9.cell? ⟨gT, 1, none⟩ = some (.slice Ab B.length kb) := (blk_cell BT.out 1).trans rfl) | (go_at_call 12; (have hq_ := mudlarkref06_Same.calls 100 none 0 [] As ks B none 0 [] Ab kb B true _ (Kd.C_nil _ _) (Nat.le_refl _) (Kd.R_reads' HSP.out).2.2 (Kd.R_reads' HSP.out).2.1 (Kd.C_nil _ _) (Nat.le_refl _) (Kd.R_reads' HBB.out).2.2 (Kd.R_reads' HBB.out).2.1 HS2.out); refine hq_.mono ?_; clear hq_; rintro e wz ⟨rfl, hb⟩; have n0_ := Aside0.mk (Kd.R_below HX.out hb); have n1_ := Aside0.mk (Kd.R_below HBB.out hb); have n2_ := Aside0.mk (Kd.R_below HSP.out hb); have n3_ := Aside0.mk (blk_below BI.out hb); have n4_ := Aside0.mk (blk_below BT.out hb); have n5_ := Aside0.mk (below_step HB.out hb); clear HX HBB HSP BI BT HB; have HX := n0_; have HBB := n1_; have HSP := n2_; have BI := n3_; have BT := n4_; have HB := n5_; clear n0_ n1_ n2_ n3_ n4_ n5_ hb; have cI_0 : wz.cell? ⟨gI, 0, none⟩ = some (.slice Ag RS.length kg) := (blk_cell BI.out 0).trans rfl; have cI_1 : wz.cell? ⟨gI, 1, none⟩ = some (.slice Ah LB.length kh) := (blk_cell BI.out 1).trans rfl; have cT_1 : wz.cell? ⟨gT, 1, none⟩ = some (.slice Ab B.length kb) := (blk_cell BT.out 1).trans rfl))
            all_goals go_wp2
            all_goals go_ret
            all_goals exact ⟨by first | rfl | simp, HB.out⟩
/-- The walk above is whole: nothing is left to lists and numbers. -/
def mudlarklaw06_MediumReads.Pure : Prop := True
theorem mudlarklaw06_MediumReads.walk (P : mudlarklaw06_MediumReads.Pure) (a0 : Option Addr) (len0 cap0 : Nat) (z0 : List Int) (a1 : Int) (a2 : Option Addr) (len2 cap2 : Nat) (z2 : List Int) (a3 : Int) (a4 : Option Addr) (len4 cap4 : Nat) (z4 : List Int) (a5 a6 : Int) (w : World) (w0 : IsRowK .u8 w a0 len0 cap0 z0) (y0 : len0 * 1 ≤ 140737488351232) (w1 : (Lit.int .u16 a1).wf = true) (w2 : IsRowK .i64 w a2 len2 cap2 z2) (y2 : len2 * 8 ≤ 140737488351232) (w3 : (Lit.int .i64 a3).wf = true) (w4 : IsRowK .i64 w a4 len4 cap4 z4) (y4 : len4 * 8 ≤ 140737488351232) (w5 : (Lit.int .u8 a5).wf = true) (w6 : (Lit.int .u8 a6).wf = true) :
    Calls Try.prog 7 #[.slice a0 len0 cap0, .int .u16 a1, .slice a2 len2 cap2, .int .i64 a3, .slice a4 len4 cap4, .int .u8 a5, .int .u8 a6] w fun e w' => e = .returned (.bool true) ∧ Below w.heap.size w w' := by
  obtain ⟨l0, rfl, hr0, hm0, hw0, hc0⟩ := ReadsInt.ofRowC w0
  obtain ⟨l2, rfl, hr2, hm2, hw2, hc2⟩ := ReadsInt.ofRowC w2
  obtain ⟨l4, rfl, hr4, hm4, hw4, hc4⟩ := ReadsInt.ofRowC w4
  have h1 : 0 ≤ a1 ∧ a1 ≤ 65535 := by simpa [Lit.wf, IntKind.min, IntKind.max, IntKind.signed, IntKind.bits] using w1
  have h5 : 0 ≤ a5 ∧ a5 ≤ 255 := by simpa [Lit.wf, IntKind.min, IntKind.max, IntKind.signed, IntKind.bits] using w5
  have h6 : 0 ≤ a6 ∧ a6 ≤ 255 := by simpa [Lit.wf, IntKind.min, IntKind.max, IntKind.signed, IntKind.bits] using w6
  exact mudlarklaw06_MediumReads.walks _ _ l0 a1 _ _ l2 a3 _ _ l4 a5 a6 w (Kd.C_of_reads (d := (0 : Int)) (h1 := fun _ => rfl) hr0) hc0 (Kd.C_of_reads (d := (0 : Int)) (h1 := fun _ => rfl) hr2) hc2 (Kd.C_of_reads (d := (0 : Int)) (h1 := fun _ => rfl) hr4) hc4 (by omega) y2 y4 ⟨h1.1, by omega⟩ ⟨h5.1, by omega⟩ ⟨h6.1, by omega⟩
end Go.Proofs.Ytmniedinfepmjaa.P
