/- medium.Make: an image of bytes and of the blocks that could not be read. No conditions. -/
import Derived.Test.YtmniedinfepmjaaHClone
import Derived.Test.YtmniedinfepmjaaHTidy
import Derived.Test.YtmniedinfepmjaaHClear
import Derived.Test.YtmniedinfepmjaaPx1
namespace Go.Proofs.Ytmniedinfepmjaa.P
open Go Go.RowKit Go.Lib Go.Proofs Go.Sort Go.Proofs.YtmniedinfepmjaaW.PrintWords Go.Proofs.YtmniedinfepmjaaW.PrintLast Go.Proofs.YtmniedinfepmjaaW.PrintMore
set_option linter.unusedVariables false
set_option linter.unusedSimpArgs false

/-- How many blocks so many bytes are. -/
def blocksN (n : Nat) : Int := (((n + 511) / 512 : Nat) : Int)
/-- The blocks that could not be read, as Make keeps them. -/
def badL (n : Nat) (l : List Int) : List Int := Lib.compact ((l.filter fun x => !delP (blocksN n) x).mergeSort fun x y => decide (x ≤ y))
/-- A block's bytes made noughts. -/
def zeroB (b : List Int) (i : Int) : List Int := b.take (512 * i.toNat) ++ List.replicate ((b.drop (512 * i.toNat)).take 512).length 0 ++ b.drop (512 * i.toNat + 512)
def makeB (b l : List Int) : List Int := l.foldl zeroB b
theorem Kd.own_ge {k : IntKind} {e : Nat} {w : World} {base : Nat} {ok : Nat → Prop} {v : Value} {xs : List Int} (h : Kd.R (Kd.int k) e w base ok v xs) {g : Nat} (hg : v.ownBlock = some g) : base ≤ g := by
  have ho : w.ownsRow base e 1 v xs.length (xs.map (Value.int k)) := Kd.own_of_R (enc := Value.int k) (h1 := fun _ => rfl) h
  rcases ho.2 with ⟨rfl, _⟩ | ⟨g2, cap, cur, rfl, hb, _⟩
  · cases hg
  · have : g2 = g := by simpa [Value.ownBlock] using hg
    omega
theorem badL_len (n : Nat) (l : List Int) : (badL n l).length ≤ l.length := by
  unfold badL
  exact Nat.le_trans (Lib.compact_length_le _) (by rw [List.length_mergeSort]; exact List.length_filter_le _ _)
theorem rd_get (l : List Int) (j : Nat) (hj : j < l.length) : Go.Proofs.YtmniedinfepmjaaW.PrintWords.rd l (j : Int) = l[j] := by unfold Go.Proofs.YtmniedinfepmjaaW.PrintWords.rd; rw [Int.toNat_natCast]; simp [List.getD, hj]
theorem zeroB_eq (b : List Int) (X F T : Nat) (hF : F = 512 * X) (hT : T = min (512 * X + 512) b.length) (h : F < T) : zeroB b (X : Int) = b.take F ++ List.replicate (T - F) 0 ++ b.drop (F + (T - F)) := by
  unfold zeroB
  rw [Int.toNat_natCast, ← hF, List.length_take, List.length_drop, show min 512 (b.length - F) = T - F by omega]
  congr 1
  by_cases h2 : F + 512 ≤ b.length
  · rw [show F + (T - F) = F + 512 by omega]
  · rw [List.drop_eq_nil_of_le (by omega), List.drop_eq_nil_of_le (by omega)]
theorem row_len {w : World} {base : Nat} {ok : Nat → Prop} {A : Option Addr} {n c : Nat} {b : List Int} (hb : b.length = n) (h : Kd.R (Kd.int .u8) 5 w base ok (.slice A n c) b) : Kd.R (Kd.int .u8) 5 w base ok (.slice A b.length c) b := by rw [hb]; exact h
theorem row_new {w : World} {base : Nat} {ok : Nat → Prop} {A : Option Addr} {n c : Nat} {b b1 b2 : List Int} (hb : b.length = n) (he : b1 = b2) (h : Kd.R (Kd.int .u8) 5 w base ok (.slice A b.length c) b2) : Kd.R (Kd.int .u8) 5 w base ok (.slice A n c) b1 := by rw [← hb, he]; exact h
theorem row_blk {w : World} {base : Nat} {ok : Nat → Prop} {g n c : Nat} {b : List Int} (h : Kd.R (Kd.int .u8) 5 w base ok (.slice (some ⟨g, 0, none⟩) n c) b) : ∃ cur, w.heap[g]? = some (.cells cur 5 (0, 0)) := by
  rcases (Kd.own_of_R (enc := Value.int .u8) (h1 := fun _ => rfl) h).2 with ⟨e, _⟩ | ⟨g', cap, cur, e, _, hg, _⟩
  · cases e
  · injection e with e1
    injection e1 with e1
    injection e1 with e1
    subst e1
    exact ⟨cur, hg⟩
theorem mem_compact (zs : List Int) (x : Int) (h : x ∈ Lib.compact zs) : x ∈ zs := by
  unfold Lib.compact Lib.compactUpTo at h
  obtain ⟨i, hi, rfl⟩ := List.mem_map.1 h
  have hi2 := List.mem_range.1 (List.mem_filter.1 hi).1
  rw [getElem!_pos zs.toArray i (by simpa using hi2)]
  simp
theorem badL_mem (n : Nat) (l : List Int) (x : Int) (h : x ∈ badL n l) : x ∈ l ∧ 0 ≤ x ∧ x < blocksN n := by
  unfold badL at h
  have h1 := mem_compact _ _ h
  have h2 := List.mem_filter.1 (List.mem_mergeSort.1 h1)
  refine ⟨h2.1, ?_⟩
  have h3 := h2.2
  unfold delP at h3
  simp only [Bool.not_eq_true', Bool.or_eq_false_iff, decide_eq_false_iff_not] at h3
  omega
theorem badL_at (n : Nat) (l : List Int) (j : Nat) (hj : j < (badL n l).length) : ∃ X : Nat, rd (badL n l) (j : Int) = (X : Int) ∧ 512 * X < n := by
  have h := badL_mem n l _ (List.getElem_mem hj)
  refine ⟨((badL n l)[j]).toNat, ?_, ?_⟩
  · rw [rd_get _ j hj]
    omega
  · unfold blocksN at h
    omega
theorem bounds_at (X n : Nat) (hn : n ≤ 140737488351232) (h : 512 * X < n) : medium_bounds.f (X : Int) (n : Int) = some (((512 * X : Nat) : Int), ((min (512 * X + 512) n : Nat) : Int)) := by
  unfold medium_bounds.f
  rw [wrap64_id ((X : Int) * 512) (by omega) (by omega), wrap64_id ((X : Int) + 1) (by omega) (by omega), wrap64_id (((X : Int) + 1) * 512) (by omega) (by omega)]
  have e : mn (((X : Int) + 1) * 512) (n : Int) = ((min (512 * X + 512) n : Nat) : Int) := by unfold mn; split <;> omega
  rw [e]
  congr 2
  omega
def medium_Make.f (l0 l1 : List Int) : Option (List Int × List Int) := if l0.length ≤ 140737488351232 ∧ l1.length ≤ 17592186040000 then some (makeB l0 (badL l0.length l1), badL l0.length l1) else none
set_option maxHeartbeats 4000000 in
set_option maxRecDepth 100000 in
theorem medium_Make.calls (A0 : Option Addr) (c0 : Nat) (l0 : List Int) (A1 : Option Addr) (c1 : Nat) (l1 : List Int) (r1 : List Int) (r2 : List Int) (w : World) (hr0 : Kd.C (Kd.int .u8) w A0 l0.length l0) (hc0 : l0.length ≤ c0) (hr1 : Kd.C (Kd.int .i64) w A1 l1.length l1) (hc1 : l1.length ≤ c1) (h : medium_Make.f l0 l1 = some (r1, r2)) :
    Calls Try.prog 10 #[.slice A0 l0.length c0, .slice A1 l1.length c1] w fun e w' => ∃ v0_ v1_ : Value, e = .returned (.agg #[v0_, v1_]) ∧ Kd.R (Kd.int .u8) 5 w' w.heap.size (fun _ => True) v0_ r1 ∧ Kd.R (Kd.int .i64) 3 w' w.heap.size (fun _ => True) v1_ r2 ∧ Below w.heap.size w w' := by
  have hu27 := Try.underlying27
  obtain ⟨hl0, hl1, e1, e2⟩ : l0.length ≤ 140737488351232 ∧ l1.length ≤ 17592186040000 ∧ makeB l0 (badL l0.length l1) = r1 ∧ badL l0.length l1 = r2 := by
    unfold medium_Make.f at h
    split at h
    · rename_i hh
      simp only [Option.some.injEq, Prod.mk.injEq] at h
      exact ⟨hh.1, hh.2, h.1, h.2⟩
    · cases h
  subst e1 e2
  clear h
  have HR0 := Aside0.mk hr0
  have HC0 := Aside0.mk hc0
  have HR1 := Aside0.mk hr1
  have HC1 := Aside0.mk hc1
  clear hr0 hc0 hr1 hc1
  have HB := Aside0.mk (Below.refl w.heap.size w)
  have HF1 : Aside0 (slices_Clone_byte_byte.f l0 = some l0) := ⟨by unfold slices_Clone_byte_byte.f; rw [if_pos hl0]⟩
  have HF2 : Aside0 (slices_Clone_int_int.f l1 = some l1) := ⟨by unfold slices_Clone_int_int.f; rw [if_pos hl1]⟩
  have HN : Aside0 (medium_Count.f l0 [] = some (blocksN l0.length)) := ⟨by
    have e : wrap64 (Int.tdiv (wrap64 ((wrap64 ((l0.length : Int) + 512)) - 1)) 512) = blocksN l0.length := by
      unfold blocksN
      rw [wrap64_id ((l0.length : Int) + 512) (by omega) (by omega), wrap64_id ((l0.length : Int) + 512 - 1) (by omega) (by omega), Int.tdiv_eq_ediv_of_nonneg (by omega), wrap64_id _ (by omega) (by omega)]
      omega
    unfold medium_Count.f
    rw [e]⟩
  go_enter Try.func10, Try.ntmps10
  go_wp2_with (first | ((with_reducible refine gate_dst (N := 4) rfl ?_); (try (refine gate_guard (by rfl) ?_; dsimp only)); refine box_event ?hg (N := 4) ?hd (cs := #[.slice none 0 0, .slice none 0 0]) (t := 27) ?hr ?_; (case hd => rfl); (case hg => rfl); (case hr => first | (go_simp; done) | (go_simp; rfl)); intro gb4 hg w4_ hbox hb; have n0_ := Aside0.mk (below_step HB.out hb); have n1_ := Aside0.mk (hbox); have n2_ := Aside0.mk ((by rw [hg]; exact below_size HB.out : w.heap.size ≤ gb4)); clear HB; have HB := n0_; have BK4 := n1_; have GE4 := n2_; clear n0_ n1_ n2_; clear hb hbox hg; have hcz4_0 : w4_.cell? ⟨gb4, 0, none⟩ = some (.slice none 0 0) := (blk_cell BK4.out 0).trans rfl; have hfz4_0 := blk_frozen BK4.out 0; have hcz4_1 : w4_.cell? ⟨gb4, 1, none⟩ = some (.slice none 0 0) := (blk_cell BK4.out 1).trans rfl; have hfz4_1 := blk_frozen BK4.out 1) | (go_at_call 25; have HBo := Aside0.mk (below_size HB.out); refine (slices_Clone_byte_byte.calls _ _ l0 l0 _ (Kd.C_below HR0.out HB.out) HC0.out HF1.out).mono ?_; rintro e w1_ ⟨v1_, rfl, ho, hb⟩; obtain ⟨A1_, k1_, rfl⟩ := Kd.R_slice ho; have n0_ := Aside0.mk (blk_below BK4.out hb); have n1_ := Aside0.mk (below_step HB.out hb); clear BK4; clear HB; have BK4 := n0_; have HB := n1_; clear n0_ n1_; have n0_ := Aside0.mk (Kd.R_lower ho HBo.out); have HO1 := n0_; clear n0_; clear ho hb HBo) | ((with_reducible refine gate_dst (N := 5) rfl ?_); (try (refine gate_guard (by rfl) ?_; dsimp only)); refine box_event ?hg (N := 5) ?hd (cs := #[.slice none 0 0, .slice none 0 0]) (t := 27) ?hr ?_; (case hd => rfl); (case hg => rfl); (case hr => first | (go_simp; done) | (go_simp; rfl)); intro gb5 hg w5_ hbox hb; have n0_ := Aside0.mk (blk_below BK4.out hb); have n1_ := Aside0.mk (Kd.R_below HO1.out hb); have n2_ := Aside0.mk (below_step HB.out hb); have n3_ := Aside0.mk (hbox); have n4_ := Aside0.mk ((by rw [hg]; exact below_size HB.out : w.heap.size ≤ gb5)); have n5_ := Aside0.mk ((by rw [hg]; exact Nat.ne_of_lt (blk_lt BK4.out) : gb4 ≠ gb5)); clear BK4; clear HO1; clear HB; have BK4 := n0_; have HO1 := n1_; have HB := n2_; have BK5 := n3_; have GE5 := n4_; have NB4_5 := n5_; clear n0_ n1_ n2_ n3_ n4_ n5_; clear hb hbox hg; have hcz5_0 : w5_.cell? ⟨gb5, 0, none⟩ = some (.slice none 0 0) := (blk_cell BK5.out 0).trans rfl; have hfz5_0 := blk_frozen BK5.out 0; have hcz5_1 : w5_.cell? ⟨gb5, 1, none⟩ = some (.slice none 0 0) := (blk_cell BK5.out 1).trans rfl; have hfz5_1 := blk_frozen BK5.out 1) | (go_at_call 15; have n0_ := Aside0.mk (blk_put BK5.out 0 (.slice A1_ l0.length k1_) rfl); have n1_ := Aside0.mk (blk_far (p := ⟨gb5, 0, none⟩) BK4.out NB4_5.out (.slice A1_ l0.length k1_)); have n2_ := Aside0.mk (Kd.R_set HO1.out BK5.out (by decide) 0 (.slice A1_ l0.length k1_)); have n3_ := Aside0.mk (below_set (j := 0) (v := .slice A1_ l0.length k1_) HB.out GE5.out); clear BK5; clear BK4; clear HO1; clear HB; have BK5 := n0_; have BK4 := n1_; have HO1 := n2_; have HB := n3_; clear n0_ n1_ n2_ n3_; have n0_ := Aside0.mk (blk_put BK5.out 1 (.slice none 0 0) rfl); have n1_ := Aside0.mk (blk_far (p := ⟨gb5, 1, none⟩) BK4.out NB4_5.out (.slice none 0 0)); have n2_ := Aside0.mk (Kd.R_set HO1.out BK5.out (by decide) 1 (.slice none 0 0)); have n3_ := Aside0.mk (below_set (j := 1) (v := .slice none 0 0) HB.out GE5.out); clear BK5; clear BK4; clear HO1; clear HB; have BK5 := n0_; have BK4 := n1_; have HO1 := n2_; have HB := n3_; clear n0_ n1_ n2_ n3_; refine (medium_Count.calls _ _ l0 none 0 ([] : List Int) (blocksN l0.length) _ (Kd.R_reads' HO1.out).2.2 (Kd.R_reads' HO1.out).2.1 (Kd.C_nil _ _) (Nat.le_refl _) HN.out).mono ?_; rintro e w2_ ⟨rfl, hb⟩; have n0_ := Aside0.mk (blk_below BK4.out hb); have n1_ := Aside0.mk (blk_below BK5.out hb); have n2_ := Aside0.mk (Kd.R_below HO1.out hb); have n3_ := Aside0.mk (below_step HB.out hb); clear BK4; clear BK5; clear HO1; clear HB; have BK4 := n0_; have BK5 := n1_; have HO1 := n2_; have HB := n3_; clear n0_ n1_ n2_ n3_; clear hb) | ((with_reducible refine gate_dst (N := 6) rfl ?_); (try (refine gate_guard (by rfl) ?_; dsimp only)); refine box_event ?hg (N := 6) ?hd (cs := #[.int .i64 0]) (t := 3) ?hr ?_; (case hd => rfl); (case hg => rfl); (case hr => first | (go_simp; done) | (go_simp; rfl)); intro gb6 hg w6_ hbox hb; have n0_ := Aside0.mk (blk_below BK4.out hb); have n1_ := Aside0.mk (blk_below BK5.out hb); have n2_ := Aside0.mk (Kd.R_below HO1.out hb); have n3_ := Aside0.mk (below_step HB.out hb); have n4_ := Aside0.mk (hbox); have n5_ := Aside0.mk ((by rw [hg]; exact below_size HB.out : w.heap.size ≤ gb6)); have n6_ := Aside0.mk ((by rw [hg]; exact Nat.ne_of_lt (blk_lt BK4.out) : gb4 ≠ gb6)); have n7_ := Aside0.mk ((by rw [hg]; exact Nat.ne_of_lt (blk_lt BK5.out) : gb5 ≠ gb6)); clear BK4; clear BK5; clear HO1; clear HB; have BK4 := n0_; have BK5 := n1_; have HO1 := n2_; have HB := n3_; have BK6 := n4_; have GE6 := n5_; have NB4_6 := n6_; have NB5_6 := n7_; clear n0_ n1_ n2_ n3_ n4_ n5_ n6_ n7_; clear hb hbox hg; have hcz6_0 : w6_.cell? ⟨gb6, 0, none⟩ = some (.int .i64 0) := (blk_cell BK6.out 0).trans rfl; have hfz6_0 := blk_frozen BK6.out 0) | (go_at_call 27; have n0_ := Aside0.mk (blk_put BK6.out 0 (.int .i64 (blocksN l0.length)) rfl); have n1_ := Aside0.mk (blk_far (p := ⟨gb6, 0, none⟩) BK4.out NB4_6.out (.int .i64 (blocksN l0.length))); have n2_ := Aside0.mk (blk_far (p := ⟨gb6, 0, none⟩) BK5.out NB5_6.out (.int .i64 (blocksN l0.length))); have n3_ := Aside0.mk (Kd.R_set HO1.out BK6.out (by decide) 0 (.int .i64 (blocksN l0.length))); have n4_ := Aside0.mk (below_set (j := 0) (v := .int .i64 (blocksN l0.length)) HB.out GE6.out); clear BK6; clear BK4; clear BK5; clear HO1; clear HB; have BK6 := n0_; have BK4 := n1_; have BK5 := n2_; have HO1 := n3_; have HB := n4_; clear n0_ n1_ n2_ n3_ n4_; have HBo := Aside0.mk (below_size HB.out); have LT4 := Aside0.mk (blk_lt BK4.out); have LT5 := Aside0.mk (blk_lt BK5.out); have LT6 := Aside0.mk (blk_lt BK6.out); refine (slices_Clone_int_int.calls _ _ l1 l1 _ (Kd.C_below HR1.out HB.out) HC1.out HF2.out).mono ?_; rintro e w3_ ⟨v2_, rfl, ho, hb⟩; have n0_ := Aside0.mk (blk_below BK4.out hb); have n1_ := Aside0.mk (blk_below BK5.out hb); have n2_ := Aside0.mk (blk_below BK6.out hb); have n3_ := Aside0.mk (Kd.R_below HO1.out hb); have n4_ := Aside0.mk (below_step HB.out hb); clear BK4; clear BK5; clear BK6; clear HO1; clear HB; have BK4 := n0_; have BK5 := n1_; have BK6 := n2_; have HO1 := n3_; have HB := n4_; clear n0_ n1_ n2_ n3_ n4_; have n0_ := Aside0.mk ((fun e => by have := Kd.own_ge ho e.symm; have := LT4.out; omega : some gb4 ≠ Value.ownBlock v2_)); have n1_ := Aside0.mk ((fun e => by have := Kd.own_ge ho e.symm; have := LT5.out; omega : some gb5 ≠ Value.ownBlock v2_)); have n2_ := Aside0.mk ((fun e => by have := Kd.own_ge ho e.symm; have := LT6.out; omega : some gb6 ≠ Value.ownBlock v2_)); have n3_ := Aside0.mk (Kd.R_lower ho HBo.out); have NE4 := n0_; have NE5 := n1_; have NE6 := n2_; have HO2 := n3_; clear n0_ n1_ n2_ n3_; clear ho hb HBo LT4 LT5 LT6) | (go_at_call 26; refine (slices_DeleteFunc_R (blocksN l0.length) gb6 (blk_lt BK6.out) (fun e => NE6.out e.symm) ((blk_cell BK6.out 0).trans rfl) HO2.out).mono ?_; rintro e w4_ ⟨v3_, rfl, ho, hg, hob⟩; obtain ⟨A3_, k3_, rfl⟩ := Kd.R_slice ho; have n0_ := Aside0.mk (blk_grown BK4.out hg NE4.out); have n1_ := Aside0.mk (blk_grown BK5.out hg NE5.out); have n2_ := Aside0.mk (blk_grown BK6.out hg NE6.out); have n3_ := Aside0.mk (Kd.R_over HO1.out HO2.out (by decide) hg); have n4_ := Aside0.mk (HB.out.grown hg (below_size HB.out) (fun k hk => Kd.own_ge HO2.out hk)); clear BK4; clear BK5; clear BK6; clear HO1; clear HB; have BK4 := n0_; have BK5 := n1_; have BK6 := n2_; have HO1 := n3_; have HB := n4_; clear n0_ n1_ n2_ n3_ n4_; have n0_ := Aside0.mk ((by rw [hob]; exact NE4.out : some gb4 ≠ Value.ownBlock (.slice A3_ (l1.filter fun x => !delP (blocksN l0.length) x).length k3_))); have n1_ := Aside0.mk ((by rw [hob]; exact NE5.out : some gb5 ≠ Value.ownBlock (.slice A3_ (l1.filter fun x => !delP (blocksN l0.length) x).length k3_))); have n2_ := Aside0.mk ((by rw [hob]; exact NE6.out : some gb6 ≠ Value.ownBlock (.slice A3_ (l1.filter fun x => !delP (blocksN l0.length) x).length k3_))); clear NE4; clear NE5; clear NE6; have NE4 := n0_; have NE5 := n1_; have NE6 := n2_; clear n0_ n1_ n2_; have n0_ := Aside0.mk (ho); clear HO2; have HO2 := n0_; clear n0_; have hcww4_5_0 : w4_.cell? ⟨gb5, 0, none⟩ = some (.slice A1_ l0.length k1_) := (blk_cell BK5.out 0).trans rfl; have hfww4_5_0 := blk_frozen BK5.out 0; have hcww4_5_1 : w4_.cell? ⟨gb5, 1, none⟩ = some (.slice none 0 0) := (blk_cell BK5.out 1).trans rfl; have hfww4_5_1 := blk_frozen BK5.out 1; clear ho hg hob) | (go_at_call 29; have n0_ := Aside0.mk (blk_put BK5.out 1 (.slice A3_ (l1.filter fun x => !delP (blocksN l0.length) x).length k3_) rfl); have n1_ := Aside0.mk (blk_far (p := ⟨gb5, 1, none⟩) BK4.out NB4_5.out (.slice A3_ (l1.filter fun x => !delP (blocksN l0.length) x).length k3_)); have n2_ := Aside0.mk (blk_far (p := ⟨gb5, 1, none⟩) BK6.out NB5_6.out.symm (.slice A3_ (l1.filter fun x => !delP (blocksN l0.length) x).length k3_)); have n3_ := Aside0.mk (Kd.R_set HO1.out BK5.out (by decide) 1 (.slice A3_ (l1.filter fun x => !delP (blocksN l0.length) x).length k3_)); have n4_ := Aside0.mk (Kd.R_set HO2.out BK5.out (by decide) 1 (.slice A3_ (l1.filter fun x => !delP (blocksN l0.length) x).length k3_)); have n5_ := Aside0.mk (below_set (j := 1) (v := .slice A3_ (l1.filter fun x => !delP (blocksN l0.length) x).length k3_) HB.out GE5.out); clear BK5; clear BK4; clear BK6; clear HO1; clear HO2; clear HB; have BK5 := n0_; have BK4 := n1_; have BK6 := n2_; have HO1 := n3_; have HO2 := n4_; have HB := n5_; clear n0_ n1_ n2_ n3_ n4_ n5_; refine (slices_Sort_R (Nat.lt_of_le_of_lt (List.length_filter_le _ _) (Nat.lt_of_le_of_lt hl1 (by decide))) HO2.out).mono ?_; rintro e w5_x ⟨rfl, ho, hg⟩; have n0_ := Aside0.mk (blk_grown BK4.out hg NE4.out); have n1_ := Aside0.mk (blk_grown BK5.out hg NE5.out); have n2_ := Aside0.mk (blk_grown BK6.out hg NE6.out); have n3_ := Aside0.mk (Kd.R_over HO1.out HO2.out (by decide) hg); have n4_ := Aside0.mk (HB.out.grown hg (below_size HB.out) (fun k hk => Kd.own_ge HO2.out hk)); clear BK4; clear BK5; clear BK6; clear HO1; clear HB; have BK4 := n0_; have BK5 := n1_; have BK6 := n2_; have HO1 := n3_; have HB := n4_; clear n0_ n1_ n2_ n3_ n4_; have n0_ := Aside0.mk (ho); clear HO2; have HO2 := n0_; clear n0_; have hcww5_x5_0 : w5_x.cell? ⟨gb5, 0, none⟩ = some (.slice A1_ l0.length k1_) := (blk_cell BK5.out 0).trans rfl; have hfww5_x5_0 := blk_frozen BK5.out 0; have hcww5_x5_1 : w5_x.cell? ⟨gb5, 1, none⟩ = some (.slice A3_ (l1.filter fun x => !delP (blocksN l0.length) x).length k3_) := (blk_cell BK5.out 1).trans rfl; have hfww5_x5_1 := blk_frozen BK5.out 1; clear ho hg) | (go_at_call 30; refine (slices_Compact_R HO2.out).mono ?_; rintro e w6_x ⟨v4_, rfl, ho, hg, hob⟩; change Kd.R _ _ _ _ _ _ (badL l0.length l1) at ho; obtain ⟨A4_, k4_, rfl⟩ := Kd.R_slice ho; have n0_ := Aside0.mk (blk_grown BK4.out hg NE4.out); have n1_ := Aside0.mk (blk_grown BK5.out hg NE5.out); have n2_ := Aside0.mk (blk_grown BK6.out hg NE6.out); have n3_ := Aside0.mk (Kd.R_over HO1.out HO2.out (by decide) hg); have n4_ := Aside0.mk (HB.out.grown hg (below_size HB.out) (fun k hk => Kd.own_ge HO2.out hk)); clear BK4; clear BK5; clear BK6; clear HO1; clear HB; have BK4 := n0_; have BK5 := n1_; have BK6 := n2_; have HO1 := n3_; have HB := n4_; clear n0_ n1_ n2_ n3_ n4_; have n0_ := Aside0.mk ((by rw [hob]; exact NE4.out : some gb4 ≠ Value.ownBlock (.slice A4_ (badL l0.length l1).length k4_))); have n1_ := Aside0.mk ((by rw [hob]; exact NE5.out : some gb5 ≠ Value.ownBlock (.slice A4_ (badL l0.length l1).length k4_))); have n2_ := Aside0.mk ((by rw [hob]; exact NE6.out : some gb6 ≠ Value.ownBlock (.slice A4_ (badL l0.length l1).length k4_))); clear NE4; clear NE5; clear NE6; have NE4 := n0_; have NE5 := n1_; have NE6 := n2_; clear n0_ n1_ n2_; have n0_ := Aside0.mk (ho); clear HO2; have HO2 := n0_; clear n0_; have hcww6_x5_0 : w6_x.cell? ⟨gb5, 0, none⟩ = some (.slice A1_ l0.length k1_) := (blk_cell BK5.out 0).trans rfl; have hfww6_x5_0 := blk_frozen BK5.out 0; have hcww6_x5_1 : w6_x.cell? ⟨gb5, 1, none⟩ = some (.slice A3_ (l1.filter fun x => !delP (blocksN l0.length) x).length k3_) := (blk_cell BK5.out 1).trans rfl; have hfww6_x5_1 := blk_frozen BK5.out 1; clear ho hg hob))
  go_loopg [31] (badL l0.length l1).length (fun kq v31 w' => ∃ (j : Nat) (b : List Int), v31 = .int .i64 (j : Int) ∧ Aside0 (j + kq = (badL l0.length l1).length) ∧ Aside0 (kq ≤ (badL l0.length l1).length) ∧ Aside0 (b.length = l0.length ∧ ((badL l0.length l1).drop j).foldl zeroB b = makeB l0 (badL l0.length l1)) ∧ Aside0 (Kd.R (Kd.int .u8) 5 w' w.heap.size (fun _ => True) (.slice A1_ l0.length k1_) b) ∧ Aside0 (Kd.R (Kd.int .i64) 3 w' w.heap.size (fun _ => True) (.slice A4_ (badL l0.length l1).length k4_) (badL l0.length l1)) ∧ Aside0 (w'.heap[gb4]? = some (.cells #[.slice none 0 0, .slice none 0 0] 27 (0, 0))) ∧ Aside0 (w'.heap[gb5]? = some (.cells #[.slice A1_ l0.length k1_, .slice A4_ (badL l0.length l1).length k4_] 27 (0, 0))) ∧ Aside0 (Below w.heap.size w w'))
  case atStart => exact ⟨0, l0, (by first | rfl | simp), ⟨by omega⟩, ⟨Nat.le_refl _⟩, ⟨rfl, by rw [List.drop_zero]; rfl⟩, ⟨Kd.R_set HO1.out BK5.out (by decide) 1 (.slice A4_ (badL l0.length l1).length k4_)⟩, ⟨Kd.R_set HO2.out BK5.out (by decide) 1 (.slice A4_ (badL l0.length l1).length k4_)⟩, ⟨blk_far (p := ⟨gb5, 1, none⟩) BK4.out NB4_5.out (.slice A4_ (badL l0.length l1).length k4_)⟩, ⟨blk_put BK5.out 1 (.slice A4_ (badL l0.length l1).length k4_) rfl⟩, ⟨below_set HB.out GE5.out⟩⟩
  case round =>
    clear HO1 HO2 BK4 BK5 HB BK6
    obtain ⟨j, b, rfl, HJ, HK1, HZ, HO1, HO2, BK4, BK5, HB⟩ := hrel
    have hcl : (badL l0.length l1).length ≤ 17592186040000 := Nat.le_trans (badL_len _ _) hl1
    have hcz50 := (blk_cell BK5.out 0).trans rfl
    have hcz51 := (blk_cell BK5.out 1).trans rfl
    have hfz50 := blk_frozen BK5.out 0
    have hfz51 := blk_frozen BK5.out 1
    have hcz40 := (blk_cell BK4.out 0).trans rfl
    have hcz41 := (blk_cell BK4.out 1).trans rfl
    have hfz40 := blk_frozen BK4.out 0
    have hfz41 := blk_frozen BK4.out 1
    cases gk with
    | zero =>
      have hj : j = (badL l0.length l1).length := by have := HJ.out; omega
      have cJ : decide ((j : Int) < (((badL l0.length l1).length : Nat) : Int)) = false := decide_eq_false (by omega)
      have hb1 : b = makeB l0 (badL l0.length l1) := by
        have := HZ.out.2
        rw [hj, List.drop_length] at this
        exact this
      have BK4f := blk_put (blk_put BK4.out 0 (.slice A1_ l0.length k1_) rfl) 1 (.slice A4_ (badL l0.length l1).length k4_) rfl
      have HO1f := Kd.R_set (Kd.R_set HO1.out BK4.out (by decide) 0 (.slice A1_ l0.length k1_)) (blk_put BK4.out 0 (.slice A1_ l0.length k1_) rfl) (by decide) 1 (.slice A4_ (badL l0.length l1).length k4_)
      have HO2f := Kd.R_set (Kd.R_set HO2.out BK4.out (by decide) 0 (.slice A1_ l0.length k1_)) (blk_put BK4.out 0 (.slice A1_ l0.length k1_) rfl) (by decide) 1 (.slice A4_ (badL l0.length l1).length k4_)
      have HBf := below_set (j := 1) (v := .slice A4_ (badL l0.length l1).length k4_) (below_set (j := 0) (v := .slice A1_ l0.length k1_) HB.out GE4.out) GE4.out
      rw [hb1] at HO1f
      go_wp2
      refine bodyPost_ret (results_cell_row rfl _ _ gb4 27 #[.slice A1_ l0.length k1_, .slice A4_ (badL l0.length l1).length k4_] (0, 0) _ rfl BK4f Try.underlying27 rfl (by kernel_rfl)) rfl ?_
      exact ⟨_, _, rfl, HO1f, HO2f, HBf⟩
    | succ k1 =>
      have hj : j < (badL l0.length l1).length := by have := HJ.out; omega
      have cJ : decide ((j : Int) < (((badL l0.length l1).length : Nat) : Int)) = true := decide_eq_true (by omega)
      obtain ⟨ad1, ea, hx0⟩ := Kd.at_int (Kd.R_reads' HO2.out).2.2 (j : Int) (by omega) (by omega)
      cases ea
      have p1 : (0 ≤ (j : Int)) = True := eq_true (by omega)
      have q1 : ((j : Int) < ((badL l0.length l1).length : Int)) = True := eq_true (by omega)
      obtain ⟨X, hX, hXn⟩ : ∃ X : Nat, rd (badL l0.length l1) (j : Int) = (X : Int) ∧ 512 * X < l0.length := badL_at l0.length l1 j hj
      rw [hX, Int.toNat_natCast] at hx0
      obtain ⟨F, hF⟩ : ∃ F : Nat, F = 512 * X := ⟨_, rfl⟩
      obtain ⟨T, hT⟩ : ∃ T : Nat, T = min (512 * X + 512) l0.length := ⟨_, rfl⟩
      have HBn : Aside0 (medium_bounds.f (X : Int) (l0.length : Int) = some ((F : Int), (T : Int))) := ⟨by rw [hF, hT]; exact bounds_at X l0.length hl0 hXn⟩
      obtain ⟨hFT, hTl, hF0⟩ : F < T ∧ T ≤ l0.length ∧ F < l0.length := by omega
      have hbl : b.length = l0.length := HZ.out.1
      obtain ⟨g1, hg1⟩ : ∃ g1, A1_ = some ⟨g1, 0, none⟩ := by
        have ho := (Kd.own_of_R (enc := Value.int .u8) (h1 := fun _ => rfl) HO1.out).2
        rcases ho with ⟨e, hz⟩ | ⟨g, cap, cur, e, _⟩
        · omega
        · injection e with e1
          exact ⟨g, e1⟩
      subst hg1
      have hroom : T ≤ k1_ := Nat.le_trans hTl (Kd.R_reads' HO1.out).2.1
      have hzb : zeroB b (X : Int) = b.take F ++ List.replicate (T - F) 0 ++ b.drop (F + (T - F)) := zeroB_eq b X F T hF (by rw [hT, hbl]) hFT
      have hlenz : (zeroB b (X : Int)).length = l0.length := by
        rw [hzb]
        simp only [List.length_append, List.length_take, List.length_replicate, List.length_drop]
        omega
      have hfold : ((badL l0.length l1).drop (j + 1)).foldl zeroB (zeroB b (X : Int)) = makeB l0 (badL l0.length l1) := by
        have h0 := HZ.out.2
        rw [List.drop_eq_getElem_cons hj, List.foldl_cons] at h0
        rw [← h0, ← hX, rd_get _ j hj]
      have hnx : wrap64 ((j : Int) + 1) = ((j + 1 : Nat) : Int) := next_i j (by omega)
      have HZB := Aside0.mk hzb
      have HBL := Aside0.mk hbl
      have HF := Aside0.mk (And.intro hFT (And.intro hTl hF0))
      have HL := Aside0.mk (And.intro hlenz hfold)
      have HNX := Aside0.mk hnx
      have hle : F ≤ T := Nat.le_of_lt hFT
      clear hzb hlenz hfold hbl hX hnx hTl hF0
      clear hF hT hXn
      go_wp2_with (go_at_call 31; refine (medium_bounds.calls _ _ _ _ _ HBn.out).mono ?_; rintro e wb_ ⟨rfl, hb⟩; have n0_ := Aside0.mk (blk_below BK4.out hb); have n1_ := Aside0.mk (blk_below BK5.out hb); have n2_ := Aside0.mk (Kd.R_below HO1.out hb); have n3_ := Aside0.mk (Kd.R_below HO2.out hb); have n4_ := Aside0.mk (below_step HB.out hb); clear BK4; clear BK5; clear HO1; clear HO2; clear HB; have BK4 := n0_; have BK5 := n1_; have HO1 := n2_; have HO2 := n3_; have HB := n4_; clear n0_ n1_ n2_ n3_ n4_; clear hb; have HOb := Aside0.mk (row_len HBL.out HO1.out); obtain ⟨hcl, HOc, hgc⟩ := clear_R 0 HOb.out F (T - F) (k1_ - F) (Nat.sub_pos_of_lt HF.out.1) (by have := HF.out; have := HBL.out; omega); obtain ⟨cur1, hc1_⟩ := row_blk HO1.out; have m0_ := Aside0.mk (blk_grown BK4.out hgc (fun e => blk_ne BK4.out hc1_ (by decide) (Option.some.inj e))); have m1_ := Aside0.mk (blk_grown BK5.out hgc (fun e => blk_ne BK5.out hc1_ (by decide) (Option.some.inj e))); have m2_ := Aside0.mk (Kd.R_over HO2.out HO1.out (by decide) hgc); have m3_ := Aside0.mk (row_new HBL.out HZB.out HOc); have m4_ := Aside0.mk (HB.out.grown hgc (below_size HB.out) (fun k hk => Kd.own_ge HO1.out hk)); have hcwwb_5_0 : wb_.cell? ⟨gb5, 0, none⟩ = some (.slice (some ⟨g1, 0, none⟩) l0.length k1_) := (blk_cell BK5.out 0).trans rfl; have hfwwb_5_0 := blk_frozen BK5.out 0; have hcwwb_5_1 : wb_.cell? ⟨gb5, 1, none⟩ = some (.slice (some ad1) (badL l0.length l1).length k4_) := (blk_cell BK5.out 1).trans rfl; have hfwwb_5_1 := blk_frozen BK5.out 1; obtain ⟨wc_, hwc⟩ : ∃ wc_, wc_ = wb_.setCells g1 F (List.replicate (T - F) (Value.int .u8 0)) := ⟨_, rfl⟩; rw [← hwc] at hcl m0_ m1_ m2_ m3_ m4_; clear hwc; clear HOc hgc; clear BK4 BK5 HO1 HO2 HB HOb hc1_; have BK4 := m0_; have BK5 := m1_; have HO2 := m2_; have HO1 := m3_; have HB := m4_; clear m0_ m1_ m2_ m3_ m4_)
      go_roundg k1
      case measure => have := HK1.out; omega
      case rel => exact ⟨j + 1, zeroB b (X : Int), (by have hnx := HNX.out; first | rfl | (rw [hnx]; done) | (simp only [hnx]; done) | (simp [hnx]; done)), ⟨by have := HJ.out; omega⟩, ⟨by have := HK1.out; omega⟩, HL, HO1, HO2, BK4, BK5, HB⟩
end Go.Proofs.Ytmniedinfepmjaa.P
