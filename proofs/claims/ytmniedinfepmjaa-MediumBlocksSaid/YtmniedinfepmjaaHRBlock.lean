/- mudlarkref06.Block: a piece of the image's bytes, that lies where they lie. No conditions. -/
import Derived.Test.YtmniedinfepmjaaHMake
import Derived.Test.YtmniedinfepmjaaPx4
namespace Go.Proofs.Ytmniedinfepmjaa.P
open Go Go.RowKit Go.Lib Go.Proofs Go.Proofs.YtmniedinfepmjaaW.PrintWords Go.Proofs.YtmniedinfepmjaaW.PrintLast Go.Proofs.YtmniedinfepmjaaW.PrintMore
attribute [local go_sem] max2_int min2_int max_two min_two
set_option linter.unusedVariables false
set_option linter.unusedSimpArgs false

/-- A row that is seen, wherever it lies. -/
def Sn (w : World) (v : Value) (xs : List Int) : Prop := ∃ A c, v = .slice A xs.length c ∧ xs.length ≤ c ∧ Kd.C (Kd.int .u8) w A xs.length xs
theorem Sn.below {w w2 : World} {v : Value} {xs : List Int} (h : Sn w v xs) (hb : Below w.heap.size w w2) : Sn w2 v xs := by
  obtain ⟨A, c, e, hc, h⟩ := h
  exact ⟨A, c, e, hc, Kd.C_below h hb⟩
theorem Sn.alloc {w : World} {v : Value} {xs : List Int} (h : Sn w v xs) (o : Obj) : Sn (w.alloc o) v xs := by
  obtain ⟨A, c, e, hc, h⟩ := h
  exact ⟨A, c, e, hc, Kd.C_alloc h o⟩
theorem Sn.drewN {w : World} {v : Value} {xs : List Int} (h : Sn w v xs) (m : Nat) : Sn (w.drewN m) v xs := by
  obtain ⟨A, c, e, hc, h⟩ := h
  exact ⟨A, c, e, hc, Kd.C_drewN h m⟩
theorem Sn.drew {w : World} {v : Value} {xs : List Int} (h : Sn w v xs) : Sn w.drew v xs := by
  obtain ⟨A, c, e, hc, h⟩ := h
  exact ⟨A, c, e, hc, Kd.C_drew h⟩
theorem Sn.string {P : Program} {w : World} {src dst e : TypeId} {v : Value} {xs : List Int} (hs : P.underlying src = some (.slice e)) (he : P.underlying e = some (.int .u8)) (hd : P.underlying dst = some .string)
    (h : Sn w v xs) : (convert src dst v).run P w = .ok (.string (strOfNums xs)) w := by
  obtain ⟨A, c, rfl, _, h⟩ := h
  exact Kd.C_string hs he hd h
def mudlarkref06_Block.f (l0 l1 : List Int) (i : Int) : Option (List Int) :=
  if l0.length ≤ 140737488351232 then (if i < 0 then some [] else if blocksN l0.length ≤ i then some [] else some ((l0.take (min (512 * i.toNat + 512) l0.length)).drop (512 * i.toNat))) else none
set_option maxHeartbeats 8000000 in
set_option maxRecDepth 100000 in
theorem mudlarkref06_Block.calls (A0_0 : Option Addr) (c0_0 : Nat) (l0_0 : List Int) (A0_1 : Option Addr) (c0_1 : Nat) (l0_1 : List Int) (a1 : Int) (r : List Int) (w : World) (hr0_0 : Kd.C (Kd.int .u8) w A0_0 l0_0.length l0_0) (hc0_0 : l0_0.length ≤ c0_0) (hr0_1 : Kd.C (Kd.int .i64) w A0_1 l0_1.length l0_1) (hc0_1 : l0_1.length ≤ c0_1) (h : mudlarkref06_Block.f l0_0 l0_1 a1 = some r) :
    Calls Try.prog 34 #[.agg #[.slice A0_0 l0_0.length c0_0, .slice A0_1 l0_1.length c0_1], .int .i64 a1] w fun e w' => ∃ v0_ : Value, e = .returned (v0_) ∧ Sn w' v0_ r ∧ Below w.heap.size w w' := by
  have hu27 := Try.underlying27
  have HR0_0 := Aside0.mk hr0_0
  have HC0_0 := Aside0.mk hc0_0
  have HR0_1 := Aside0.mk hr0_1
  have HC0_1 := Aside0.mk hc0_1
  clear hr0_0 hc0_0 hr0_1 hc0_1
  have HB := Aside0.mk (Below.refl w.heap.size w)
  unfold mudlarkref06_Block.f at h
  by_cases hl : l0_0.length ≤ 140737488351232
  · rw [if_pos hl] at h
    have HN : Aside0 (mudlarkref06_Count.f l0_0 l0_1 = some (blocksN l0_0.length)) := ⟨by
      have e : wrap64 (Int.tdiv (wrap64 ((l0_0.length : Int) + 511)) 512) = blocksN l0_0.length := by
        unfold blocksN
        rw [wrap64_id ((l0_0.length : Int) + 511) (by omega) (by omega), Int.tdiv_eq_ediv_of_nonneg (by omega), wrap64_id _ (by omega) (by omega)]
        omega
      unfold mudlarkref06_Count.f
      rw [e]⟩
    have HL := Aside0.mk hl
    clear hl
    by_cases c1 : a1 < 0
    · rw [if_pos c1] at h
      obtain rfl := Option.some.inj h
      clear h
      have c1b : decide (a1 < 0) = true := decide_eq_true c1
      clear c1
      go_enter Try.func34, Try.ntmps34
      go_wp2_with (first | ((with_reducible refine gate_dst (N := 2) rfl ?_); refine box_event ?hg (N := 2) ?hd (cs := #[.slice A0_0 l0_0.length c0_0, .slice A0_1 l0_1.length c0_1]) (t := 27) ?hr ?_; (case hd => rfl); (case hg => rfl); (case hr => first | (go_simp; done) | (go_simp; rfl)); intro gb102 hg w4 hbox hb; have n0_ := Aside0.mk (below_step HB.out hb); clear HB; have HB := n0_; clear n0_; clear hb hbox hg))
      go_wp2
      go_ret
      exact ⟨_, rfl, ⟨none, 0, rfl, Nat.le_refl _, Kd.C_nil _ _⟩, HB.out⟩
    · rw [if_neg c1] at h
      have c1b : decide (a1 < 0) = false := decide_eq_false c1
      have C1 := Aside0.mk c1
      clear c1
      by_cases c2 : blocksN l0_0.length ≤ a1
      · rw [if_pos c2] at h
        obtain rfl := Option.some.inj h
        clear h
        have c2b : decide (a1 ≥ blocksN l0_0.length) = true := decide_eq_true c2
        have c2c : decide (blocksN l0_0.length ≤ a1) = true := decide_eq_true c2
        clear c2
        go_enter Try.func34, Try.ntmps34
        go_wp2_with (first | ((with_reducible refine gate_dst (N := 2) rfl ?_); refine box_event ?hg (N := 2) ?hd (cs := #[.slice A0_0 l0_0.length c0_0, .slice A0_1 l0_1.length c0_1]) (t := 27) ?hr ?_; (case hd => rfl); (case hg => rfl); (case hr => first | (go_simp; done) | (go_simp; rfl)); intro gb102 hg w4 hbox hb; have n0_ := Aside0.mk (below_step HB.out hb); have n1_ := Aside0.mk (hbox); clear HB; have HB := n0_; have BK102 := n1_; clear n0_ n1_; clear hb hbox hg; have hcz7_0 : w4.cell? ⟨gb102, 0, none⟩ = some (.slice A0_0 l0_0.length c0_0) := (blk_cell BK102.out 0).trans rfl; have hcz7_1 : w4.cell? ⟨gb102, 1, none⟩ = some (.slice A0_1 l0_1.length c0_1) := (blk_cell BK102.out 1).trans rfl; have hfz7_0 := blk_frozen BK102.out 0; have hfz7_1 := blk_frozen BK102.out 1) | (go_at_call 32; refine (mudlarkref06_Count.calls _ _ l0_0 _ _ l0_1 _ _ (Kd.C_below HR0_0.out HB.out) HC0_0.out (Kd.C_below HR0_1.out HB.out) HC0_1.out HN.out).mono ?_; rintro e w8 ⟨rfl, hb⟩; have n0_ := Aside0.mk (below_step HB.out hb); clear HB; have HB := n0_; clear n0_ hb))
        go_wp2
        go_ret
        exact ⟨_, rfl, ⟨none, 0, rfl, Nat.le_refl _, Kd.C_nil _ _⟩, HB.out⟩
      · rw [if_neg c2] at h
        have c2b : decide (a1 ≥ blocksN l0_0.length) = false := decide_eq_false c2
        have c2c : decide (blocksN l0_0.length ≤ a1) = false := decide_eq_false c2
        obtain ⟨X, rfl⟩ : ∃ X : Nat, a1 = (X : Int) := ⟨a1.toNat, by have := C1.out; omega⟩
        have hX : 512 * X < l0_0.length := by unfold blocksN at c2; omega
        have HX := Aside0.mk hX
        clear c2 hX
        rw [Int.toNat_natCast] at h
        obtain ⟨F, hF⟩ : ∃ F : Nat, F = 512 * X := ⟨_, rfl⟩
        obtain ⟨T, hT⟩ : ∃ T : Nat, T = min (512 * X + 512) l0_0.length := ⟨_, rfl⟩
        rw [← hT, ← hF] at h
        obtain rfl := Option.some.inj h
        clear h
        have g1 : wrap64 (512 * (X : Int)) = (F : Int) := by have := HX.out; have := HL.out; rw [wrap64_id _ (by omega) (by omega)]; omega
        have g2 : wrap64 ((F : Int) + 512) = (F : Int) + 512 := by have := HX.out; have := HL.out; rw [wrap64_id _ (by omega) (by omega)]
        have hcF : (c0_0 = F) = False := eq_false (by have := HX.out; have := HC0_0.out; omega)
        have HRB : ∀ w2, Below w.heap.size w w2 → Kd.C (Kd.int .u8) w2 (Option.map (fun x => x.add F) A0_0) ((l0_0.take T).drop F).length ((l0_0.take T).drop F) := fun w2 hb2 => by
          have h2 := ((Kd.reads_of_C (enc := Value.int .u8) (d := (0 : Int)) (h1 := fun _ => rfl) (Kd.C_below HR0_0.out hb2)).take_ T (by omega)).drop_ (c := c0_0) F (by have := HX.out; omega) (by have := HX.out; have := HC0_0.out; omega)
          rw [if_neg (by rw [hcF]; exact not_false)] at h2
          rw [show ((l0_0.take T).drop F).length = T - F by rw [List.length_drop, List.length_take]; omega]
          exact Kd.C_of_reads (h1 := fun _ => rfl) h2
        have HLN : Aside0 (((l0_0.take T).drop F).length = T - F) := ⟨by rw [List.length_drop, List.length_take]; omega⟩
        have HRB := Aside0.mk HRB
        by_cases g3 : l0_0.length < F + 512
        · obtain rfl : T = l0_0.length := by omega
          have g3a : ((l0_0.length : Int) < (F : Int) + 512) = True := eq_true (by omega)
          have g6 : (l0_0.length ≤ c0_0) = True := eq_true HC0_0.out
          have g4 : (F ≤ l0_0.length) = True := eq_true (by have := HX.out; omega)
          have HF := Aside0.mk hF
          clear hF hT g3
          go_enter Try.func34, Try.ntmps34
          go_wp2_with (first | ((with_reducible refine gate_dst (N := 2) rfl ?_); refine box_event ?hg (N := 2) ?hd (cs := #[.slice A0_0 l0_0.length c0_0, .slice A0_1 l0_1.length c0_1]) (t := 27) ?hr ?_; (case hd => rfl); (case hg => rfl); (case hr => first | (go_simp; done) | (go_simp; rfl)); intro gb102 hg w4 hbox hb; have n0_ := Aside0.mk (below_step HB.out hb); have n1_ := Aside0.mk (hbox); clear HB; have HB := n0_; have BK102 := n1_; clear n0_ n1_; clear hb hbox hg; have hcz7_0 : w4.cell? ⟨gb102, 0, none⟩ = some (.slice A0_0 l0_0.length c0_0) := (blk_cell BK102.out 0).trans rfl; have hcz7_1 : w4.cell? ⟨gb102, 1, none⟩ = some (.slice A0_1 l0_1.length c0_1) := (blk_cell BK102.out 1).trans rfl; have hfz7_0 := blk_frozen BK102.out 0; have hfz7_1 := blk_frozen BK102.out 1) | (go_at_call 32; refine (mudlarkref06_Count.calls _ _ l0_0 _ _ l0_1 _ _ (Kd.C_below HR0_0.out HB.out) HC0_0.out (Kd.C_below HR0_1.out HB.out) HC0_1.out HN.out).mono ?_; rintro e w8 ⟨rfl, hb⟩; have n0_ := Aside0.mk (below_step HB.out hb); have n1_ := Aside0.mk (blk_below BK102.out hb); clear HB; clear BK102; have HB := n0_; have BK102 := n1_; clear n0_ n1_ hb; have hcz8_0 : w8.cell? ⟨gb102, 0, none⟩ = some (.slice A0_0 l0_0.length c0_0) := (blk_cell BK102.out 0).trans rfl; have hfz8_0 := blk_frozen BK102.out 0))
          all_goals (try go_wp2)
          go_ret
          exact ⟨_, rfl, ⟨_, c0_0 - F, by rw [HLN.out]; first | rfl | (simp; done), by rw [HLN.out]; have := HC0_0.out; omega, HRB.out _ HB.out⟩, HB.out⟩
        · obtain rfl : T = F + 512 := by omega
          have g3a : ((l0_0.length : Int) < (F : Int) + 512) = False := eq_false (by omega)
          have g6 : (F + 512 ≤ c0_0) = True := eq_true (by have := HC0_0.out; omega)
          have g7 : (0 ≤ (F : Int) + 512) = True := eq_true (by omega)
          have g8 : ((F : Int) + 512 ≤ (c0_0 : Int)) = True := eq_true (by have := HC0_0.out; omega)
          have g9 : (F ≤ F + 512) = True := eq_true (by omega)
          have ga : ((F : Int) ≤ (F : Int) + 512) = True := eq_true (by omega)
          have gb : ((F : Int) + 512).toNat = F + 512 := by omega
          have g4 : (F + 512 ≤ l0_0.length) = True := eq_true (by omega)
          have g5 : ((F : Int) + 512 ≤ (l0_0.length : Int)) = True := eq_true (by omega)
          have HF := Aside0.mk hF
          clear hF hT g3
          go_enter Try.func34, Try.ntmps34
          go_wp2_with (first | ((with_reducible refine gate_dst (N := 2) rfl ?_); refine box_event ?hg (N := 2) ?hd (cs := #[.slice A0_0 l0_0.length c0_0, .slice A0_1 l0_1.length c0_1]) (t := 27) ?hr ?_; (case hd => rfl); (case hg => rfl); (case hr => first | (go_simp; done) | (go_simp; rfl)); intro gb102 hg w4 hbox hb; have n0_ := Aside0.mk (below_step HB.out hb); have n1_ := Aside0.mk (hbox); clear HB; have HB := n0_; have BK102 := n1_; clear n0_ n1_; clear hb hbox hg; have hcz7_0 : w4.cell? ⟨gb102, 0, none⟩ = some (.slice A0_0 l0_0.length c0_0) := (blk_cell BK102.out 0).trans rfl; have hcz7_1 : w4.cell? ⟨gb102, 1, none⟩ = some (.slice A0_1 l0_1.length c0_1) := (blk_cell BK102.out 1).trans rfl; have hfz7_0 := blk_frozen BK102.out 0; have hfz7_1 := blk_frozen BK102.out 1) | (go_at_call 32; refine (mudlarkref06_Count.calls _ _ l0_0 _ _ l0_1 _ _ (Kd.C_below HR0_0.out HB.out) HC0_0.out (Kd.C_below HR0_1.out HB.out) HC0_1.out HN.out).mono ?_; rintro e w8 ⟨rfl, hb⟩; have n0_ := Aside0.mk (below_step HB.out hb); have n1_ := Aside0.mk (blk_below BK102.out hb); clear HB; clear BK102; have HB := n0_; have BK102 := n1_; clear n0_ n1_ hb; have hcz8_0 : w8.cell? ⟨gb102, 0, none⟩ = some (.slice A0_0 l0_0.length c0_0) := (blk_cell BK102.out 0).trans rfl; have hfz8_0 := blk_frozen BK102.out 0))
          all_goals (try go_wp2)
          go_ret
          exact ⟨_, rfl, ⟨_, c0_0 - F, by rw [HLN.out]; first | rfl | (simp; done), by rw [HLN.out]; have := HC0_0.out; have := of_eq_true g4; omega, HRB.out _ HB.out⟩, HB.out⟩
  · rw [if_neg hl] at h
    cases h
end Go.Proofs.Ytmniedinfepmjaa.P
