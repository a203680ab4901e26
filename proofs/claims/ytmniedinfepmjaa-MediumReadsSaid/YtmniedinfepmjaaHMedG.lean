/- medium.Gather: what it hands back, and what it leaves. No conditions. -/
import Derived.Test.YtmniedinfepmjaaHMedI
namespace Go.Proofs.Ytmniedinfepmjaa.P
open Go Go.RowKit Go.Shelf Go.Lib Go.Proofs Go.Sort Go.Proofs.YtmniedinfepmjaaW.PrintWords Go.Proofs.YtmniedinfepmjaaW.PrintLast Go.Proofs.YtmniedinfepmjaaW.PrintMore
set_option linter.unusedVariables false
set_option linter.unusedSimpArgs false
attribute [local go_sem] Oper.semAt_some

set_option maxRecDepth 100000 in
theorem pieces_calls (g : Nat) (w : World) :
    Calls Try.prog 35 #[.pointer (some ⟨g, 0, none⟩)] w fun e w' => e = .returned (.func (.func 40) #[] #[.pointer (some ⟨w.heap.size, 0, none⟩)]) ∧ w' = w.alloc (.cells #[.pointer (some ⟨g, 0, none⟩)] 37) := by
  go_enter Try.func35, Try.ntmps35
  go_wp2
  go_ret
  exact ⟨rfl, rfl⟩
theorem Below.of_grown {w w2 : World} (h : w.grownBy w2 none) : Below w.heap.size w w2 := ⟨h.os, h.tape, h.output, h.size, fun k hk => h.block k hk (by simp)⟩
/-- What the loop of Gather keeps. -/
def GathI (w : World) (g : Nat) (xs : List (Value × List Int)) (W : World) : Prop :=
  (∃ v, W.heap[w.heap.size + 1]? = some (.cells #[v, .slice none 0 0] 27 (0, 0)) ∧ W.ownsRow (w.heap.size + 3) 5 1 v (flat xs).length ((flat xs).map (Value.int .u8))) ∧
    W.heap[w.heap.size]? = some (.cells #[.slice none 0 0, .slice none 0 0] 27 (0, 0)) ∧ w.grownBy W (some g) ∧ w.heap.size + 3 ≤ W.heap.size
theorem own_ne {W : World} {base e n g : Nat} {v : Value} {xs : List Value} (h : W.ownsRow base e 1 v n xs) (hg : g < base) : v.ownBlock = none ∨ v.ownBlock ≠ some g := by
  refine .inr (fun e => ?_)
  have := (h.lt g e).1
  omega
theorem own_open {W : World} {base e n : Nat} {v : Value} {xs : List Value} (h : W.ownsRow base e 1 v n xs) (hn : 0 < n) : ∃ g cap, v = .slice (some ⟨g, 0, none⟩) n cap := by
  rcases h.2 with ⟨rfl, h0⟩ | ⟨g, cap, cur, rfl, _⟩
  · omega
  · exact ⟨g, cap, rfl⟩
theorem gathI_lasts (w : World) (g : Nat) (hg : g < w.heap.size) : LastsM g (w.heap.size + 3) (GathI w g) where
  grown := fun s W W' ⟨⟨v, hv, hr⟩, hs, hb, hz⟩ hgr => ⟨⟨v, (hgr.block _ (by omega) (by simp; omega)).trans hv, hr.kept hgr (own_ne hr (by omega))⟩, (hgr.block _ (by omega) (by simp; omega)).trans hs, hb.trans hgr, Nat.le_trans hz hgr.size⟩
  turned := fun s W l o o' ⟨⟨v, hv, hr⟩, hs, hb, hz⟩ hl ho hc => ⟨⟨v, (World.putObj_heap_other (by omega)).trans hv, ownsRow_putObj hr _ ho hc⟩, (World.putObj_heap_other (by omega)).trans hs, hb.andThen (grownBy_putObj' W l o') (fun j e => by cases e; exact .inl (by omega)), by
    have := (grownBy_putObj' W l o').size
    omega⟩
set_option maxRecDepth 100000 in
set_option maxHeartbeats 4000000 in
theorem medium_Gather.calls (w : World) (base g : Nat) (v0 v1 v2 : Value) (X B S : List Int) (p0 nx0 : Int) (hm : MedV w base g v0 v1 v2 X B S p0 nx0) (hX : X.length ≤ 140737488351232) (hBl : B.length ≤ 17592186040000) (hSl : S.length ≤ 17592186040000) (hp0 : 0 ≤ p0) (hp1 : p0 ≤ (X.length : Int)) (hnx : NxOk S nx0) :
    Calls Try.prog 19 #[.pointer (some ⟨g, 0, none⟩)] w fun e w' => ∃ a b, e = .returned (.agg #[a, b]) ∧ Kd.R (Kd.int .u8) 5 w' w.heap.size (fun _ => True) a (X.drop p0.toNat) ∧ Kd.R (Kd.int .i64) 3 w' w.heap.size (fun _ => True) b (if p0 = 0 then B else []) ∧
      (∃ nx, MedV w' base g v0 v1 v2 X B S (X.length : Int) nx ∧ NxOk S nx) ∧ w.grownBy w' (some g) := by
  have hu61 := Try.underlying61
  have hu27 := Try.underlying27
  obtain ⟨i0, hi, hz0, hz1_, hz2⟩ := info_parts info5
  have hlt := hm.lt
  have hc3 : w.cell? ⟨g, 3, none⟩ = some (.int .i64 p0) := (blk_cell hm.2.2.2.1 3).trans rfl
  have hf3 := blk_frozen hm.2.2.2.1 3
  have hcA : ∀ o, (w.alloc o).cell? ⟨g, 3, none⟩ = some (.int .i64 p0) := fun o => Lib.cell?_alloc_some _ hc3
  obtain ⟨wh, hwh⟩ : ∃ wh : Bool, wh = (p0 == 0) := ⟨_, rfl⟩
  have hwd : decide (p0 = 0) = wh := by rw [hwh]; rfl
  refine (callsIn_wide (n := 3)).1 ?_
  refine callsIn_of_wp_marks Try.func19 rfl trivial ?_ rfl
  simp only [Try.ntmps19, List.size_toArray, List.length_cons, List.length_nil, Nat.reduceAdd, Nat.reduceSub, Array.replicate_succ, Array.replicate_zero, List.push_toArray, List.append_toArray, List.nil_append, List.cons_append]
  gi_wp2_with (refine ⟨trivial, ?_⟩; gi_at_call 35; refine (callsIn_wide.2 (pieces_calls g _)).mono ?_; rintro e w1 ⟨rfl, rfl⟩)
  have HM := Aside0.mk hm
  have HLT := Aside0.mk hlt
  have hgN := hlt.1
  have nR := World.alloc_heap_new w (.cells #[.slice none 0 0, .slice none 0 0] 27)
  have nX := World.alloc_heap_new (w.alloc (.cells #[.slice none 0 0, .slice none 0 0] 27)) (.cells #[.slice none 0 0, .slice none 0 0] 27)
  have nB := Boxed.new ((w.alloc (.cells #[.slice none 0 0, .slice none 0 0] 27)).alloc (.cells #[.slice none 0 0, .slice none 0 0] 27)) 37 (.pointer (some ⟨g, 0, none⟩))
  have hz1 : (((w.alloc (.cells #[.slice none 0 0, .slice none 0 0] 27)).alloc (.cells #[.slice none 0 0, .slice none 0 0] 27)).alloc (.cells #[.pointer (some ⟨g, 0, none⟩)] 37)).heap.size = w.heap.size + 3 := by simp
  have hB0 : Below w.heap.size w (((w.alloc (.cells #[.slice none 0 0, .slice none 0 0] 27)).alloc (.cells #[.slice none 0 0, .slice none 0 0] 27)).alloc (.cells #[.pointer (some ⟨g, 0, none⟩)] 37)) := (((Below.refl _ w).alloc (Nat.le_refl _) _).alloc (by simp) _).alloc (by simp; omega) _
  rw [World.size_alloc] at nX nB
  rw [World.size_alloc] at nB
  have nR2 := (Below.heap_alloc (w.alloc (.cells #[.slice none 0 0, .slice none 0 0] 27)) (.cells #[.slice none 0 0, .slice none 0 0] 27) w.heap.size (by simp)).trans nR
  have nR3 := (Below.heap_alloc _ (.cells #[.pointer (some ⟨g, 0, none⟩)] 37) w.heap.size (by simp; omega)).trans nR2
  have nX3 := (Below.heap_alloc _ (.cells #[.pointer (some ⟨g, 0, none⟩)] 37) (w.heap.size + 1) (by simp)).trans nX
  have hsz : (((w.alloc (.cells #[.slice none 0 0, .slice none 0 0] 27)).alloc (.cells #[.slice none 0 0, .slice none 0 0] 27))).heap.size = w.heap.size + 2 := by simp
  have hbx : w.heap.size + 1 + 1 = w.heap.size + 2 := rfl
  obtain ⟨w3, hw3⟩ : ∃ w3, w3 = ((w.alloc (.cells #[.slice none 0 0, .slice none 0 0] 27)).alloc (.cells #[.slice none 0 0, .slice none 0 0] 27)).alloc (.cells #[.pointer (some ⟨g, 0, none⟩)] 37) := ⟨_, rfl⟩
  rw [← hw3] at nB hz1 hB0 nR3 nX3 ⊢
  clear hw3 nR nX nR2 hsz
  refine range_m (by omega) (gf := 40) (g := g) (b := w.heap.size + 1 + 1) (D := w.heap.size) (by omega) (by omega) (by omega) rfl (enters_of Try.func40 (by kernel_rfl) rfl)
    (pieces_seq _ _ w.heap.size base g (by omega) v0 v1 v2 X B S p0 nx0 hX hSl hp0 hp1 hnx HLT.out)
    (GathI w g) (by rw [hz1]; exact gathI_lasts w g hgN) (fun W W' h hg => ⟨h.1.below (Below.of_grown hg), h.2.kept hg (by simp)⟩) (fun x W l o o' h _ ho hc => ⟨R_put h.1 ho hc, h.2⟩)
    (fun W l o o' h _ ho hc => by obtain ⟨nx, h1, h2⟩ := h; exact ⟨nx, h1.put ho hc, h2⟩)
    ⟨⟨_, nX3, World.ownsRow_nil _ _ _ _⟩, nR3, grown_of_below hB0 _, by omega⟩ ⟨HM.out.below hB0, nB⟩
    (fun x => { tmps := #[.pointer (some ⟨g, 0, none⟩), undef, .pointer (some ⟨w.heap.size, 0, none⟩), .bool (p0 == 0), .pointer (some ⟨w.heap.size + 1, 0, none⟩), x.1, .pointer (some ⟨g, 0, none⟩), .bool false, undef, .pointer (some ⟨g, 0, none⟩), .pointer (some ⟨g, 0, none⟩), .pointer (some ⟨g, 3, none⟩), .int .i64 p0, .bool (p0 == 0), .pointer (some ⟨g, 0, none⟩), .func (.func 40) #[] #[.pointer (some ⟨w.heap.size + 1 + 1, 0, none⟩)], x.1, undef, undef, undef, undef, undef, undef, undef, undef, undef, undef], defers := [] }) ?assign ?body ?done
  case assign =>
    intro l x W K hK
    gi_wp2
    exact hK
  case body =>
    rintro l pre ⟨xv, xl⟩ W ⟨⟨v, hv, hrow⟩, hs, hb, hz⟩ ⟨hr, hxl⟩ hsp
    dsimp only at hr hxl ⊢
    obtain ⟨ad, c, rfl⟩ := Kd.R_slice1 hr hxl
    have hcell := ints_get (Kd.R_reads' hr).2.2 rfl
    have hlen : (flat pre).length + xl.length ≤ X.length := by
      have := List.IsPrefix.length_le hsp
      rw [flat_snoc, List.length_append, List.length_drop] at this
      simp only at this
      omega
    have hc := (blk_cell hv 0).trans rfl
    have hf := blk_frozen hv 0
    have hvl := blk_lt hv
    gi_wp2_with (gi_at_builtin; refine wpListIn_append_own _ rfl _ _ 22 rfl (w.heap.size + 3) 5 i0 (.int .u8 0) 1 1 Try.underlying22 hi hz0 hz1_ hz2 rfl (by decide) _ _ _ rfl hrow ad xl.length c (xl.map (Value.int .u8)) rfl (by simp) hcell (by intro u hu; obtain ⟨x, _, rfl⟩ := List.mem_map.1 hu; rfl) (by unfold maxLen; omega) (by omega) (by omega) ?_; intro v' w1 hown' hgrow_ _; have hgrow : W.grownBy w1 v.ownBlock := hgrow_; clear hgrow_; obtain ⟨g', cap', rfl⟩ := own_open hown' (by omega); have hv1 := (hgrow.block (w.heap.size + 1) hvl (fun e => by have := (hrow.lt _ e.symm).1; omega)).trans hv; have hc1 := (blk_cell hv1 0).trans rfl; have hf1 := blk_frozen hv1 0)
    have hst := grown_setCell w1 (w.heap.size + 1) 0 (.slice (some ⟨g', 0, none⟩) ((flat pre).length + xl.length) cap')
    have hrow2 := hown'.kept hst (own_ne hown' (by omega))
    refine ⟨?_, ⟨?_, ?_⟩, ⟨_, blk_put hv1 0 _ rfl, ?_⟩, ?_, ?_, ?_⟩
    · refine (KeepsOthers.of_grownBy hgrow fun j o ej hj => ?_).trans (KeepsOthers.setCell _ _ _)
      rcases hrow.2 with ⟨rfl, _⟩ | ⟨q, cap, cur, rfl, _, hgb, _⟩
      · simp [Value.ownBlock] at ej
      · obtain rfl : q = j := by simpa [Value.ownBlock] using ej
        rw [hgb] at hj; cases hj; rfl
    · exact ((Below.refl w.heap.size W).grown hgrow (by omega) (fun k e => by have := (hrow.lt k e).1; omega)).setCell (p := ⟨w.heap.size + 1, 0, none⟩) (by simp) _
    · exact (Below.heap_setCell _ _ _ _ (by simp)).trans (hgrow.block (w.heap.size + 1 + 1) (by omega) (fun e => by have := (hrow.lt _ e.symm).1; omega))
    · rw [flat_snoc, List.length_append, List.map_append]
      exact hrow2
    · exact (Below.heap_setCell _ _ _ _ (by simp)).trans ((hgrow.block w.heap.size (by omega) (fun e => by have := (hrow.lt _ e.symm).1; omega)).trans hs)
    · exact (hb.andThen hgrow (fun j e => by have := (hrow.lt j e).1; exact .inl (by omega))).andThen hst (fun j e => by cases e; exact .inl (by omega))
    · have h1 := hgrow.size
      have h2 := hst.size
      omega
  case done =>
    rintro E ys W hE hfin ⟨⟨v, hv, hrow⟩, hs, hb, hz⟩ ⟨nx, hme, hnx2⟩ hK
    have hR0 : Kd.R (Kd.int .u8) 5 W (w.heap.size + 3) (fun _ => True) v (flat ys) := Kd.R_of_own (enc := Value.int .u8) (h1 := fun _ => rfl) hrow (fun _ _ => trivial)
    rw [hfin] at hR0
    clear hrow hfin
    obtain ⟨A9, k9, rfl⟩ := Kd.R_slice hR0
    have hx0 : W.cell? ⟨w.heap.size + 1, 0, none⟩ = some (.slice A9 (X.drop p0.toNat).length k9) := (blk_cell hv 0).trans rfl
    have hx1 : W.cell? ⟨w.heap.size + 1, 1, none⟩ = some (.slice none 0 0) := (blk_cell hv 1).trans rfl
    have hxf0 := blk_frozen hv 0
    have hxf1 := blk_frozen hv 1
    have hs0 : W.cell? ⟨w.heap.size, 0, none⟩ = some (.slice none 0 0) := (blk_cell hs 0).trans rfl
    have hs1 : W.cell? ⟨w.heap.size, 1, none⟩ = some (.slice none 0 0) := (blk_cell hs 1).trans rfl
    have hsf0 := blk_frozen hs 0
    have hsf1 := blk_frozen hs 1
    have hlen : (X.drop p0.toNat).length = X.length - p0.toNat := List.length_drop ..
    have hgN := HLT.out.1
    by_cases h0 : p0 = 0
    · subst h0
      have h0 : (0 : Int) = 0 := rfl
      have c0 : ((0 : Int) == 0) = true := rfl
      rw [show X.drop (0 : Int).toNat = X from rfl] at hR0 hx0
      have HR0 := Aside0.mk hR0
      have HME := Aside0.mk hme
      have HV := Aside0.mk hv
      have HS := Aside0.mk hs
      have HK := Aside0.mk hK
      have HGB := Aside0.mk hb
      have HZ := Aside0.mk hz
      have HB4 := Aside0.mk hBl
      have hif : True := trivial
      have HE := Aside0.mk hE
      have HI := Aside0.mk hif
      clear hR0 hme hv hs hK hb hz hE hif
      gi_wp2_with (refine ⟨trivial, ?_⟩; gi_at_call 22; refine (callsIn_wide.2 (medium_Spoilt.calls _ base g X B S _ nx ⟨_, _, _, HME.out⟩ HB4.out)).mono ?_; rintro e w4 ⟨vb, rfl, hob, hbb⟩; obtain ⟨A8, k8, rfl⟩ := Kd.R_slice hob; have hv4 := blk_below HV.out hbb; have hs4 := blk_below HS.out hbb; have hx04 : w4.cell? ⟨w.heap.size + 1, 0, none⟩ = some (.slice A9 X.length k9) := (blk_cell hv4 0).trans rfl; have hx14 : w4.cell? ⟨w.heap.size + 1, 1, none⟩ = some (.slice none 0 0) := (blk_cell hv4 1).trans rfl; have hxf04 := blk_frozen hv4 0; have hxf14 := blk_frozen hv4 1; have hs04 : w4.cell? ⟨w.heap.size, 0, none⟩ = some (.slice none 0 0) := (blk_cell hs4 0).trans rfl; have hs14 : w4.cell? ⟨w.heap.size, 1, none⟩ = some (.slice none 0 0) := (blk_cell hs4 1).trans rfl; have hsf04 := blk_frozen hs4 0; have hsf14 := blk_frozen hs4 1)
      clear HI
      have bk0 := blk_put hv4 1 (.slice A8 B.length k8) rfl
      have bs0 := blk_far (p := ⟨w.heap.size + 1, 1, none⟩) hs4 (by simp) (.slice A8 B.length k8)
      have bk1 := blk_put bs0 0 (.slice A9 X.length k9) rfl
      have bk2 := blk_put bk1 1 (.slice A8 B.length k8) rfl
      have hE := HE.out
      have hz := HZ.out
      have hN4 : Below w.heap.size W w4 := ⟨hbb.os, hbb.tape, hbb.output, hbb.size, fun k hk => hbb.block k (by omega)⟩
      have hB2 : Below w.heap.size W (((w4.setCell ⟨w.heap.size + 1, 1, none⟩ (.slice A8 B.length k8)).setCell ⟨w.heap.size, 0, none⟩ (.slice A9 X.length k9)).setCell ⟨w.heap.size, 1, none⟩ (.slice A8 B.length k8)) := ((hN4.setCell (p := ⟨w.heap.size + 1, 1, none⟩) (by simp) _).setCell (p := ⟨w.heap.size, 0, none⟩) (Nat.le_refl _) _).setCell (p := ⟨w.heap.size, 1, none⟩) (Nat.le_refl _) _
      have hK2 : (((w4.setCell ⟨w.heap.size + 1, 1, none⟩ (.slice A8 B.length k8)).setCell ⟨w.heap.size, 0, none⟩ (.slice A9 X.length k9)).setCell ⟨w.heap.size, 1, none⟩ (.slice A8 B.length k8)).heap[E]? = some (.deferred (some [])) := (Below.heap_setCell _ _ _ _ (by simp; omega)).trans ((Below.heap_setCell _ _ _ _ (by simp; omega)).trans ((Below.heap_setCell _ _ _ _ (by simp; omega)).trans (blk_below HK.out hbb)))
      have hRa := R_put (o' := .deferred none) (Kd.R_set (Kd.R_set (Kd.R_set (Kd.R_lower (Kd.R_below HR0.out hbb) (Nat.le_add_right w.heap.size 3)) hv4 (by decide) 1 (.slice A8 B.length k8)) bs0 (by decide) 0 (.slice A9 X.length k9)) bk1 (by decide) 1 (.slice A8 B.length k8)) hK2 rfl
      have hRb := R_put (o' := .deferred none) (Kd.R_set (Kd.R_set (Kd.R_set (Kd.R_lower hob (show w.heap.size ≤ W.heap.size by omega)) hv4 (by decide) 1 (.slice A8 B.length k8)) bs0 (by decide) 0 (.slice A9 X.length k9)) bk1 (by decide) 1 (.slice A8 B.length k8)) hK2 rfl
      have hgr := ((((HGB.out.trans (grown_of_below hbb (some g))).andThen (grown_setCell _ (w.heap.size + 1) 1 (.slice A8 B.length k8)) (fun j e => by cases e; exact .inl (by omega))).andThen (grown_setCell _ w.heap.size 0 (.slice A9 X.length k9)) (fun j e => by cases e; exact .inl (Nat.le_refl _))).andThen (grown_setCell _ w.heap.size 1 (.slice A8 B.length k8)) (fun j e => by cases e; exact .inl (Nat.le_refl _))).andThen (grownBy_putObj' _ E (.deferred none)) (fun j e => by cases e; exact .inl (by omega))
      refine ⟨by simp, .inl ⟨_, _, rfl, run_takeDeferred hK2, ?_⟩⟩
      exact ⟨_, results_cell_row rfl _ _ w.heap.size 27 #[.slice A9 X.length k9, .slice A8 B.length k8] (0, 0) _ rfl ((World.putObj_heap_other (by omega)).trans bk2) hu27 rfl (by kernel_rfl), _, _, rfl, hRa, hRb, ⟨nx, (HME.out.keep HLT.out hB2).put hK2 rfl, hnx2⟩, hgr⟩
    · have c0 : (p0 == 0) = false := beq_eq_false_iff_ne.mpr h0
      gi_wp2
      have bk1 := blk_put hs 0 (.slice A9 (X.length - p0.toNat) k9) rfl
      have bk2 := blk_put bk1 1 (.slice none 0 0) rfl
      have hB2 : Below w.heap.size W ((W.setCell ⟨w.heap.size, 0, none⟩ (.slice A9 (X.length - p0.toNat) k9)).setCell ⟨w.heap.size, 1, none⟩ (.slice none 0 0)) := ((Below.refl w.heap.size W).setCell (p := ⟨w.heap.size, 0, none⟩) (Nat.le_refl _) _).setCell (p := ⟨w.heap.size, 1, none⟩) (Nat.le_refl _) _
      have hK2 : ((W.setCell ⟨w.heap.size, 0, none⟩ (.slice A9 (X.length - p0.toNat) k9)).setCell ⟨w.heap.size, 1, none⟩ (.slice none 0 0)).heap[E]? = some (.deferred (some [])) := (Below.heap_setCell _ _ _ _ (by simp; omega)).trans ((Below.heap_setCell _ _ _ _ (by simp; omega)).trans hK)
      have hRa := R_put (o' := .deferred none) (Kd.R_set (Kd.R_set (Kd.R_lower hR0 (Nat.le_add_right w.heap.size 3)) hs (by decide) 0 (.slice A9 (X.length - p0.toNat) k9)) bk1 (by decide) 1 (.slice none 0 0)) hK2 rfl
      rw [hlen] at hRa
      have hgr := ((hb.andThen (grown_setCell W w.heap.size 0 (.slice A9 (X.length - p0.toNat) k9)) (fun j e => by cases e; exact .inl (Nat.le_refl _))).andThen (grown_setCell _ w.heap.size 1 (.slice none 0 0)) (fun j e => by cases e; exact .inl (Nat.le_refl _))).andThen (grownBy_putObj' _ E (.deferred none)) (fun j e => by cases e; exact .inl (by omega))
      refine ⟨by simp, .inl ⟨_, _, rfl, run_takeDeferred hK2, ?_⟩⟩
      exact ⟨_, results_cell_row rfl _ _ w.heap.size 27 #[.slice A9 (X.length - p0.toNat) k9, .slice none 0 0] (0, 0) _ rfl ((World.putObj_heap_other (by omega)).trans bk2) hu27 rfl (by kernel_rfl), _, _, rfl, hRa, Kd.R_nil _ _ _ _ _, ⟨nx, (hme.keep HLT.out hB2).put hK2 rfl, hnx2⟩, hgr⟩
end Go.Proofs.Ytmniedinfepmjaa.P
