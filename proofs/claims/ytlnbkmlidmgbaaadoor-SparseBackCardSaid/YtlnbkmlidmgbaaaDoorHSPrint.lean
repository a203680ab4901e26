/- sparse.Print: what it hands back for at most a thousand parts. Its condition: internal/strconv's table of powers of ten holds what its text lays. -/
import Derived.Test.YtlnbkmlidmgbaaaDoorHStd9
import Derived.Test.YtlnbkmlidmgbaaaDoorHLay2
import Derived.Lib.Join
namespace Go.Proofs.YtlnbkmlidmgbaaaDoor.P
open Go.RowKit Go.Shelf Go.Lib Go.Proofs.YtlnbkmlidmgbaaaDoorW.PrintWords Go.Proofs.YtlnbkmlidmgbaaaDoorW.PrintLast Go.Proofs.YtlnbkmlidmgbaaaDoorW.PrintMore
attribute [local go_sem] max2_int min2_int max_two min_two max_three min_three max_four min_four
set_option linter.unusedVariables false
set_option linter.unusedSimpArgs false

/-- A number that may be told, by its bytes. -/
def tellN (n : Int) : ByteArray := tx (Lib.itoa (mx 0 (mn n 9999999999999)))
def tellP (p : S40) : List ByteArray := [tellN p.f0, tellN p.f1]
def tellL (l : List S40) : List ByteArray := l.flatMap tellP
def joinC (l : List ByteArray) : ByteArray := ⟨(Lib.join (l.map (·.data.toList)) [44]).toArray⟩
def sparse_Print.f (l : List S40) : Option ByteArray := if l.length ≤ 1000000 ∧ (Lib.join ((tellL l).map (·.data.toList)) [44]).length ≤ 140737488355328 then some (joinC (tellL l)) else none

theorem join_own (v : Value) (l : List ByteArray) (w : World) {base : Nat} (h : Kd.R Kd.string 9 w base (fun _ => True) v l) (hn : l.length ≤ 140737488355328) (hj : (Lib.join (l.map (·.data.toList)) [44]).length ≤ 140737488355328) :
    Calls Tryd.prog 35 #[v, .string ⟨#[44]⟩] w fun e w' => e = .returned (.string (joinC l)) ∧ Below w.heap.size w w' := by
  have ho := Kd.own_of_R (enc := Value.string) (h1 := fun _ => rfl) h
  obtain ⟨hl, ⟨rfl, h0⟩ | ⟨g, cap, cur, rfl, hb, hg, hc, hm, hs, ht⟩⟩ := ho
  · have e : l = [] := List.eq_nil_of_length_eq_zero h0
    subst e
    exact (Tryd.strings_Join_none none 0 ⟨#[44]⟩ w).mono (fun e w' hw => ⟨hw.1, by rw [hw.2]; exact Below.refl _ _⟩)
  · refine (Tryd.strings_Join g 0 cap l ⟨#[44]⟩ w (fun j x hx => ?_) (Array.getElem?_eq_some_iff.1 hg).1 hn hc hj).mono (fun e w' hw => hw)
    have hx2 : (encs Value.string l)[j]? = some (.string x) := by simp [encs, hx]
    rw [← ht] at hx2
    have hx3 : cur.toList[j]? = some (.string x) := by
      rw [List.getElem?_take] at hx2
      split at hx2
      · exact hx2
      · cases hx2
    rw [Nat.zero_add]
    refine (blk_cell hg j).trans ?_
    simpa using hx3
theorem tell_drop (l : List S40) (i : Nat) (h : i < l.length) : tellL (l.take (i + 1)) = tellL (l.take i) ++ tellP (rd_T40 l (i : Int)) := by
  have e : l.take (i + 1) = l.take i ++ [rd_T40 l (i : Int)] := by
    rw [List.take_succ_eq_append_getElem h]
    unfold rd_T40
    simp [List.getD, h]
  unfold tellL
  rw [e, List.flatMap_append]
  simp
theorem tell_length (l : List S40) : (tellL l).length = 2 * l.length := by
  unfold tellL
  induction l with
  | nil => rfl
  | cons p l ih => rw [List.flatMap_cons, List.length_append, ih, List.length_cons]; show 2 + _ = _; omega
theorem clamp_range (n : Int) : 0 ≤ mx 0 (mn n 9999999999999) ∧ mx 0 (mn n 9999999999999) ≤ 9999999999999 := by unfold mx mn; split <;> split <;> omega

theorem idx_first (W : World) (a b : Int) : (Instr.index 65 (.agg #[.int .i64 a, .int .i64 b]) (.int .i64 0)).run Tryd.prog W = .ok (.int .i64 a) W := by
  obtain ⟨i0, hi, hz0, hz1, hz2⟩ := info_parts info3
  simp [Instr.index, run_underlying Tryd.underlying65, asIntOf, go_sem, sizeOf, typeInfo, hi, hz1]
theorem idx_last (W : World) (a b : Int) : (Instr.index 65 (.agg #[.int .i64 a, .int .i64 b]) (.int .i64 1)).run Tryd.prog W = .ok (.int .i64 b) W := by
  obtain ⟨i0, hi, hz0, hz1, hz2⟩ := info_parts info3
  simp [Instr.index, run_underlying Tryd.underlying65, asIntOf, go_sem, sizeOf, typeInfo, hi, hz1]
set_option maxHeartbeats 8000000 in
set_option maxRecDepth 100000 in
theorem sparse_Print.calls (A0 : Option Addr) (c0 : Nat) (l0 : List S40) (r : ByteArray) (w : World) (hr0 : Kd.C k40 w A0 l0.length l0) (hc0 : l0.length ≤ c0) (h : sparse_Print.f l0 = some r) (HT_ : Tabs w) :
    Calls Tryd.prog 25 #[.slice A0 l0.length c0] w fun e w' => e = .returned (.string r) ∧ Below w.heap.size w w' := by
  have hu40 := Tryd.underlying40
  have HR0 := Aside0.mk hr0
  have HC0 := Aside0.mk hc0
  have HT := Aside0.mk HT_
  clear hr0 hc0 HT_
  have HB := Aside0.mk (Below.refl w.heap.size w)
  unfold sparse_Print.f at h
  by_cases c : l0.length ≤ 1000000 ∧ (Lib.join ((tellL l0).map (·.data.toList)) [44]).length ≤ 140737488355328
  · rw [if_pos c] at h
    obtain rfl := Option.some.inj h
    obtain ⟨c1, c2⟩ := c
    have HC1 := Aside0.mk c1
    have HC2 := Aside0.mk c2
    clear c1 c2 h
    go_enter Tryd.func25, Tryd.ntmps25
    go_wp2
    go_loopg [3, 10] l0.length (fun kq v3 v10 w' => ∃ (i : Nat) (o : List ByteArray), v10 = .int .i64 (i : Int) ∧ Aside0 (o = tellL (l0.take i)) ∧ Aside0 (Kd.R Kd.string 9 w' w.heap.size (fun _ => True) v3 o) ∧ Aside0 (l0.length ≤ i + kq) ∧ Aside0 (i ≤ l0.length) ∧ Aside0 (Below w.heap.size w w'))
    case atStart => exact ⟨0, [], rfl, ⟨rfl⟩, ⟨Kd.R_nil _ _ _ _ _⟩, ⟨by omega⟩, ⟨Nat.zero_le _⟩, HB⟩
    case round =>
      obtain ⟨i, o, rfl, HO, HR, HK, HI, HB⟩ := hrel
      have hI := HI.out
      by_cases c13 : i < l0.length
      · have c13b0 : decide ((i : Int) < (l0.length : Int)) = true := decide_eq_true (by omega)
        obtain ⟨ad, e125, hx_0, hx_1⟩ := at_T40 HR0.out (i : Int) (by omega) (by omega)
        cases e125
        replace hx_0 := (HB.out.cell (World.block_lt_of_cell? w _ hx_0)).trans hx_0
        replace hx_1 := (HB.out.cell (World.block_lt_of_cell? w _ hx_1)).trans hx_1
        have hta := tell_drop l0 i c13
        obtain ⟨p, hp⟩ : ∃ p, p = rd_T40 l0 (i : Int) := ⟨_, rfl⟩
        rw [← hp] at hx_0 hx_1 hta
        rw [Int.toNat_natCast] at hx_0 hx_1
        rw [← HO.out] at hta
        have HTA := Aside0.mk hta
        obtain ⟨F0, F1⟩ := p
        simp only at hx_0 hx_1
        clear hp hta HO
        go_wp2_with (first | ((with_reducible refine gate_dst (N := 5) rfl ?_); refine box_event ?hg (N := 5) ?hd (cs := #[.int .i64 0, .int .i64 0]) (t := 40) ?hr ?_; (case hd => rfl); (case hg => rfl); (case hr => first | (go_simp; done) | (go_simp; rfl)); intro gb hg_ w18 hbox hb; have n1_ := Aside0.mk (below_step HB.out hb); have n2_ := Aside0.mk (Kd.R_below HR.out hb); have n3_ := Aside0.mk hbox; have n4_ := Aside0.mk (show w.heap.size ≤ gb by rw [hg_]; exact below_size HB.out); clear HB HR; have HB := n1_; have HR := n2_; have BK := n3_; have GE := n4_; clear n1_ n2_ n3_ n4_ hb hbox hg_; have hcz0 : w18.cell? ⟨gb, 0, none⟩ = some (.int .i64 0) := (blk_cell BK.out 0).trans rfl; have hcz1 : w18.cell? ⟨gb, 1, none⟩ = some (.int .i64 0) := (blk_cell BK.out 1).trans rfl; have hfz0 := blk_frozen BK.out 0; have hfz1 := blk_frozen BK.out 1) | ((with_reducible refine gate_store (t := 40) (p := 5) rfl ?_); refine store_event (t := 40) (p := 5) (v := ?vo) (w1 := ((w18.setCell ⟨gb, 0, none⟩ (.int .i64 F0)).setCell ⟨gb, 1, none⟩ (.int .i64 F1))) ?hg ?ho ?hn ?hr ?_; (case ho => rfl); (case hg => rfl); (case hn => rfl); (case hr => first | (go_simp; done) | (go_simp; rfl)); intro w20 hw; have n2_ : Aside0 (w20.heap[gb]? = some (.cells #[.int .i64 F0, .int .i64 F1] 40 (0, 0))) := ⟨(by rw [hw]; refine blk_put (cs := #[.int .i64 F0, .int .i64 0]) ?_ 1 _ rfl; refine blk_put (cs := #[.int .i64 0, .int .i64 0]) ?_ 0 _ rfl; exact BK.out)⟩; have n3_ : Aside0 (Below w.heap.size w w20) := ⟨(by rw [hw]; exact below_set (below_set HB.out GE.out) GE.out)⟩; have n4_ : Aside0 (Kd.R Kd.string 9 w20 w.heap.size (fun _ => True) u3 o) := ⟨(by rw [hw]; exact Kd.R_mono (Kd.R_far (p := ⟨gb, 1, none⟩) (Kd.R_far (p := ⟨gb, 0, none⟩) (Kd.R_types HR.out BK.out (by decide)) (fun _ hk => hk.2) (.int .i64 F0)) (fun _ hk => hk.2) (.int .i64 F1)) (fun _ hk => hk.1))⟩; clear hw; clear BK HB HR hcz0 hcz1 hfz0 hfz1; have BK := n2_; have HB := n3_; have HR := n4_; clear n2_ n3_ n4_; have hcz0 : w20.cell? ⟨gb, 0, none⟩ = some (.int .i64 F0) := (blk_cell BK.out 0).trans rfl; have hcz1 : w20.cell? ⟨gb, 1, none⟩ = some (.int .i64 F1) := (blk_cell BK.out 1).trans rfl; have hfz0 := blk_frozen BK.out 0; have hfz1 := blk_frozen BK.out 1))
        obtain ⟨k1, rfl⟩ : ∃ k1, gk = k1 + 1 := ⟨gk - 1, by have := HK.out; omega⟩
        have HLN := Aside0.mk (show o.length ≤ 2000000 by
          have h1 := congrArg List.length HTA.out
          have h2 := tell_length (l0.take (i + 1))
          rw [List.length_append] at h1
          rw [List.length_take] at h2
          have := HC1.out
          omega)
        go_loopg [3, 19] 2 (fun kq v3 v19 w' => ∃ (jj : Int) (o2 : List ByteArray), v19 = .int .i64 jj ∧ Aside0 ((jj = 0 ∧ o = o2) ∨ (jj = 1 ∧ o2 = o ++ [tellN F0]) ∨ (jj = 2 ∧ o2 = o ++ [tellN F0] ++ [tellN F1])) ∧ Aside0 (Kd.R Kd.string 9 w' w.heap.size (fun _ => True) v3 o2) ∧ Aside0 (2 ≤ jj + kq) ∧ Aside0 (Below w.heap.size w w'))
        case atStart => exact ⟨0, o, rfl, ⟨.inl ⟨rfl, rfl⟩⟩, HR, ⟨by omega⟩, HB⟩
        case round =>
          obtain ⟨jj, o2, rfl, HJ, HR2, HK2, HB2⟩ := hrel
          clear HR HB BK hcz0 hcz1 hfz0 hfz1
          rcases HJ.out with ⟨rfl, rfl⟩ | ⟨rfl, rfl⟩ | ⟨rfl, rfl⟩
          · obtain ⟨y, hy⟩ : ∃ y, (if (9999999999999 : Int) < F0 then 9999999999999 else F0) = y := ⟨_, rfl⟩
            obtain ⟨z, hz⟩ : ∃ z, (if (0 : Int) < y then y else 0) = z := ⟨_, rfl⟩
            have hzz : mx 0 (mn F0 9999999999999) = z := by rw [← hz, ← hy]; rfl
            have hr := clamp_range F0
            rw [hzz] at hr
            have HI2 := Aside0.mk (show strconv_Itoa_34.f z = some (tx (Lib.itoa z)) by unfold strconv_Itoa_34.f; rw [if_pos ⟨by omega, by omega⟩])
            have HX := Aside0.mk (show tellN F0 = tx (Lib.itoa z) by unfold tellN; rw [hzz])
            have HLO := Aside0.mk (show o.length ≤ 2000001 by have h1 := HLN.out; (try simp only [List.length_append, List.length_cons, List.length_nil]); omega)
            have hix0 := fun W => idx_first W F0 F1
            have hix1 := fun W => idx_last W F0 F1
            clear hzz hr
            go_wp2_with (first | (go_at_call 34; refine (strconv_Itoa_34.calls z _ _ HI2.out (HT.out.below (by repeat (first | (with_reducible first | exact HB2.out | apply below_alloc | apply pw_below_drewN | apply below_drew1) | exact HB2.out)))).mono ?_; rintro e w30 ⟨rfl, hb⟩; have n1_ := Aside0.mk (below_step (by repeat (first | (with_reducible first | exact HB2.out | apply below_alloc | apply pw_below_drewN | apply below_drew1) | exact HB2.out)) hb); have n2_ := Aside0.mk (Kd.R_below (by (with_reducible repeat (first | apply Kd.R_alloc | apply Kd.R_drewN | apply Kd.R_drew)); exact HR2.out) hb); clear HB2 HR2; have HB2 := n1_; have HR2 := n2_; clear n1_ n2_ hb) | ((with_reducible refine gate_builtin (b := .append) (xs := #[.tmp 22, .tmp 27]) rfl ?_); at_builtin; refine Kd.R_append Kd.string (w0 := w) w.heap.size rfl (.tmp 22) (.tmp 27) 62 9 (.string ⟨#[]⟩) 16 rfl Tryd.underlying62 info9 rfl (by decide) (by omega) _ o (tx (Lib.itoa z)) [.string (tx (Lib.itoa z))] (fun _ => True) (fun _ => False) rfl rfl ?aP (fun _ hk => hk.elim) ?aF ?aO ?aB ?aS ?aL ?_; (case aP => exact rfl); (case aB => exact (by repeat (first | (with_reducible first | exact HB2.out | apply below_alloc | apply pw_below_drewN | apply below_drew1) | exact HB2.out))); (case aF => exact (fun _ _ => trivial)); (case aO => exact HR2.out); (case aS => exact below_size (by repeat (first | (with_reducible first | exact HB2.out | apply below_alloc | apply pw_below_drewN | apply below_drew1) | exact HB2.out))); (case aL => have := HLO.out; omega); intro v31 w31 ho hb hg hat; clear HB2 HR2; have HB2 := Aside0.mk hb; have HR2 := Aside0.mk ho; clear ho hb hg hat))
            obtain ⟨k2, rfl⟩ : ∃ k2, gk = k2 + 1 := ⟨gk - 1, by have := HK2.out; omega⟩
            go_roundg k2
            case measure => omega
            case rel => exact ⟨1, o ++ [tellN F0], by first | rfl | simp, ⟨.inr (.inl ⟨rfl, rfl⟩)⟩, by rw [HX.out]; exact HR2, ⟨by have := HK2.out; omega⟩, HB2⟩
          · obtain ⟨y, hy⟩ : ∃ y, (if (9999999999999 : Int) < F1 then 9999999999999 else F1) = y := ⟨_, rfl⟩
            obtain ⟨z, hz⟩ : ∃ z, (if (0 : Int) < y then y else 0) = z := ⟨_, rfl⟩
            have hzz : mx 0 (mn F1 9999999999999) = z := by rw [← hz, ← hy]; rfl
            have hr := clamp_range F1
            rw [hzz] at hr
            have HI2 := Aside0.mk (show strconv_Itoa_34.f z = some (tx (Lib.itoa z)) by unfold strconv_Itoa_34.f; rw [if_pos ⟨by omega, by omega⟩])
            have HX := Aside0.mk (show tellN F1 = tx (Lib.itoa z) by unfold tellN; rw [hzz])
            have HLO := Aside0.mk (show (o ++ [tellN F0]).length ≤ 2000001 by have h1 := HLN.out; (try simp only [List.length_append, List.length_cons, List.length_nil]); omega)
            have hix0 := fun W => idx_first W F0 F1
            have hix1 := fun W => idx_last W F0 F1
            clear hzz hr
            go_wp2_with (first | (go_at_call 34; refine (strconv_Itoa_34.calls z _ _ HI2.out (HT.out.below (by repeat (first | (with_reducible first | exact HB2.out | apply below_alloc | apply pw_below_drewN | apply below_drew1) | exact HB2.out)))).mono ?_; rintro e w30 ⟨rfl, hb⟩; have n1_ := Aside0.mk (below_step (by repeat (first | (with_reducible first | exact HB2.out | apply below_alloc | apply pw_below_drewN | apply below_drew1) | exact HB2.out)) hb); have n2_ := Aside0.mk (Kd.R_below (by (with_reducible repeat (first | apply Kd.R_alloc | apply Kd.R_drewN | apply Kd.R_drew)); exact HR2.out) hb); clear HB2 HR2; have HB2 := n1_; have HR2 := n2_; clear n1_ n2_ hb) | ((with_reducible refine gate_builtin (b := .append) (xs := #[.tmp 22, .tmp 27]) rfl ?_); at_builtin; refine Kd.R_append Kd.string (w0 := w) w.heap.size rfl (.tmp 22) (.tmp 27) 62 9 (.string ⟨#[]⟩) 16 rfl Tryd.underlying62 info9 rfl (by decide) (by omega) _ (o ++ [tellN F0]) (tx (Lib.itoa z)) [.string (tx (Lib.itoa z))] (fun _ => True) (fun _ => False) rfl rfl ?aP (fun _ hk => hk.elim) ?aF ?aO ?aB ?aS ?aL ?_; (case aP => exact rfl); (case aB => exact (by repeat (first | (with_reducible first | exact HB2.out | apply below_alloc | apply pw_below_drewN | apply below_drew1) | exact HB2.out))); (case aF => exact (fun _ _ => trivial)); (case aO => exact HR2.out); (case aS => exact below_size (by repeat (first | (with_reducible first | exact HB2.out | apply below_alloc | apply pw_below_drewN | apply below_drew1) | exact HB2.out))); (case aL => have := HLO.out; omega); intro v31 w31 ho hb hg hat; clear HB2 HR2; have HB2 := Aside0.mk hb; have HR2 := Aside0.mk ho; clear ho hb hg hat))
            obtain ⟨k2, rfl⟩ : ∃ k2, gk = k2 + 1 := ⟨gk - 1, by have := HK2.out; omega⟩
            go_roundg k2
            case measure => omega
            case rel => exact ⟨2, o ++ [tellN F0] ++ [tellN F1], by first | rfl | simp, ⟨.inr (.inr ⟨rfl, rfl⟩)⟩, by rw [HX.out]; exact HR2, ⟨by have := HK2.out; omega⟩, HB2⟩
          · go_wp2
            go_roundg k1
            case measure => have := HK.out; omega
            case rel => exact ⟨i + 1, o ++ [tellN F0] ++ [tellN F1], by rw [show wrap64 ((i : Int) + 1) = ((i + 1 : Nat) : Int) by have := HC1.out; unfold wrap64; omega], ⟨by rw [HTA.out, List.append_assoc]; rfl⟩, HR2, ⟨by have := HK.out; omega⟩, ⟨by omega⟩, HB2⟩
      · obtain rfl : i = l0.length := by omega
        have c13b0 : decide ((l0.length : Int) < (l0.length : Int)) = false := decide_eq_false (by omega)
        have hO := HO.out
        rw [List.take_length] at hO
        have HO2 := Aside0.mk hO
        clear HO hO c13
        go_wp2_with (go_at_call 35; refine (join_own _ o _ HR.out (by have := tell_length l0; have := HC1.out; rw [HO2.out]; omega) (by rw [HO2.out]; exact HC2.out)).mono ?_; rintro e w' ⟨rfl, hb⟩; have n1_ := Aside0.mk (below_step HB.out hb); clear HB; have HB := n1_; clear n1_ hb)
        go_ret
        exact ⟨by first | rfl | (rw [HO2.out]; rfl), by repeat (first | (with_reducible first | exact HB.out | apply below_alloc | apply pw_below_drewN | apply below_drew1) | exact HB.out)⟩
  · rw [if_neg c] at h
    cases h
end Go.Proofs.YtlnbkmlidmgbaaaDoor.P
