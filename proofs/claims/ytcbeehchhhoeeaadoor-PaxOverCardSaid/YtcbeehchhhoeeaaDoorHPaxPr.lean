/- pax.Print: what it hands back for every slice of records (up to a bound). Its condition: internal/strconv's table of powers of ten holds what its text lays, and strconv's error variables hold errors. -/
import Derived.Test.YtcbeehchhhoeeaaDoorHPaxL
import Derived.Test.YtcbeehchhhoeeaaDoorHLayB
import Derived.Test.YtcbeehchhhoeeaaDoorHMark
import Derived.Test.YtcbeehchhhoeeaaDoorHPaxR
import Derived.WalkMore
namespace Go.Proofs.YtcbeehchhhoeeaaDoor.P
open Go Go.RowKit Go.Shelf Go.Lib Go.Proofs Go.Proofs.YtcbeehchhhoeeaaDoorW.PrintWords Go.Proofs.YtcbeehchhhoeeaaDoorW.PrintLast Go.Proofs.YtcbeehchhhoeeaaDoorW.PrintMore
attribute [local go_sem] max2_int min2_int max_two min_two max_three min_three max_four min_four
set_option linter.unusedVariables false
set_option linter.unusedSimpArgs false

/-- A builder stays one where elder blocks stay. -/
theorem isB_below {T e B b : Nat} {bs : List Value} {w w1 : World} (h : IsBuilderF T e B b bs w) (hb : Below w.heap.size w w1) : IsBuilderF T e B b bs w1 := by
  have key : ∀ p, BuilderAtF T e B b p bs w → BuilderAtF T e B b p bs w1 := by
    intro p h
    have hlt := h.lt
    obtain ⟨hB, v, hbk, hown, hne⟩ := h
    exact ⟨hB, v, (hb.block b hlt).trans hbk, hown.kept (row := none) ⟨hb.os, hb.tape, hb.output, hb.size, fun k hk _ => hb.block k hk⟩ (by cases hv : v.ownBlock <;> simp), hne⟩
  exact h.elim (fun x => .inl (key _ x)) (fun x => .inr (key _ x))
/-- A store into a block of another type. -/
theorem isB_set {T e B b g t : Nat} {bs : List Value} {w : World} {cells : Array Value} {fr : Nat × Nat} (h : IsBuilderF T e B b bs w) (hg : w.heap[g]? = some (.cells cells t fr)) (ht : t ≠ e) (hT : t ≠ T) (j : Nat) (u : Value) : IsBuilderF T e B b bs (w.setCell ⟨g, j, none⟩ u) := by
  have key : ∀ p, BuilderAtF T e B b p bs w → BuilderAtF T e B b p bs (w.setCell ⟨g, j, none⟩ u) := by
    intro p h
    obtain ⟨hB, v, hbk, hown, hne⟩ := h
    have hbg : b ≠ g := fun e => by
      subst e
      rw [hg] at hbk
      simp only [Option.some.injEq, Obj.cells.injEq] at hbk
      exact hT hbk.2.1
    have hgo : v.ownBlock ≠ some g := ownBlock_neF hown hg ht
    exact ⟨hB, v, (Below.heap_setCell w ⟨g, j, none⟩ u b hbg).trans hbk, hown.kept (row := some g) ⟨rfl, rfl, rfl, by simp [World.setCell], fun k _ hk => Below.heap_setCell _ _ _ _ (fun e => hk (by simp [e]))⟩ (Or.inr hgo), hne⟩
  exact h.elim (fun x => .inl (key _ x)) (fun x => .inr (key _ x))
theorem row_of (l : List UInt8) (w W : World) (hl : l.length ≤ 9223372036854775807) (hW : w.heap.size ≤ W.heap.size) : Kd.Z (bytesWorld W 5 (⟨l.toArray⟩ : ByteArray)) w.heap.size (fun _ => True) (.slice (some ⟨W.heap.size, 0, none⟩) l.length (grownCap W l.length 0 5)) (bytesOf (tx l)) := by
  have h := Kd.Z_lower (Kd.Z_bytes W (tx l) (by rw [tx_size]; exact hl)) hW
  rw [bytesOf_length, tx_size] at h
  exact h
set_option maxHeartbeats 8000000 in
set_option maxRecDepth 100000 in
theorem pax_Print.calls (A0 : Option Addr) (c0 : Nat) (l0 : List S41) (r1 : List Int) (r2 : Int) (w : World) (hr0 : Kd.C k41 w A0 l0.length l0) (hc0 : l0.length ≤ c0) (h : pax_Print.f l0 = some (r1, r2)) (HT_ : Tabs w) :
    Calls Tryd.prog 12 #[.slice A0 l0.length c0] w fun e w' => ∃ v, e = .returned (.tuple #[v, .int .u16 r2]) ∧ Kd.Z w' w.heap.size (fun _ => True) v r1 ∧ Below w.heap.size w w' := by
  have hu41 := Tryd.underlying41
  have HR0 := Aside0.mk hr0
  have HC0 := Aside0.mk hc0
  have HT := Aside0.mk HT_
  clear hr0 hc0 HT_
  have HB := Aside0.mk (Below.refl w.heap.size w)
  unfold pax_Print.f at h
  by_cases c : l0.length ≤ 1000000000000 ∧ l0.all recS = true ∧ (linesL l0).length ≤ 100000000000000
  · rw [if_pos c] at h
    have HV := Aside0.mk (Option.some.inj h)
    obtain ⟨c1, c2, c3⟩ := c
    have HC1 := Aside0.mk c1
    have HC2 := Aside0.mk c2
    have HC3 := Aside0.mk c3
    clear c1 c2 c3 h
    go_enter Tryd.func12, Tryd.ntmps12
    go_wp2
    go_loopg [9] l0.length (fun kq v9 w' => ∃ (i : Nat), v9 = .int .i64 (i : Int) ∧ Aside0 ((l0.take i).all recOk = true) ∧ Aside0 (IsBuilderF 53 5 w.heap.size w.heap.size (byteCells (linesL (l0.take i))) w') ∧ Aside0 (l0.length ≤ i + kq) ∧ Aside0 (i ≤ l0.length) ∧ Aside0 (Below w.heap.size w w'))
    case atStart => exact ⟨0, rfl, ⟨by rw [List.take_zero]; rfl⟩, ⟨IsBuilderF.of (fresh_isBuilder 53 5 w)⟩, ⟨by omega⟩, ⟨Nat.zero_le _⟩, ⟨below_alloc HB.out _⟩⟩
    case round =>
      obtain ⟨i, rfl, HO, HI, HK, HL, HB⟩ := hrel
      have hI := HL.out
      by_cases c13 : i < l0.length
      · have c13b0 : decide ((i : Int) < (l0.length : Int)) = true := decide_eq_true (by omega)
        obtain ⟨ad, e125, hx_0, hx_1⟩ := at_T41 HR0.out (i : Int) (by omega) (by omega)
        cases e125
        replace hx_0 := (HB.out.cell (World.block_lt_of_cell? w _ hx_0)).trans hx_0
        replace hx_1 := (HB.out.cell (World.block_lt_of_cell? w _ hx_1)).trans hx_1
        have hta := lines_take l0 i c13
        have htk := take_rd l0 i c13
        have hle := lines_le l0 (i + 1)
        have hsm : recS (rd_T41 l0 (i : Int)) = true := List.all_eq_true.1 HC2.out _ (rd_mem l0 i c13)
        have hmm := rd_mem l0 i c13
        obtain ⟨p, hp⟩ : ∃ p, p = rd_T41 l0 (i : Int) := ⟨_, rfl⟩
        rw [← hp] at hx_0 hx_1 hta htk hsm hmm
        rw [Int.toNat_natCast] at hx_0 hx_1
        rw [hta, List.length_append] at hle
        obtain ⟨F0, F1⟩ := p
        have HTA := Aside0.mk (show linesL (l0.take (i + 1)) = linesL (l0.take i) ++ lineL F0.data.toList F1.data.toList from hta)
        have HTK := Aside0.mk htk
        have HLE := Aside0.mk (show (linesL (l0.take i)).length + (lineL F0.data.toList F1.data.toList).length ≤ (linesL l0).length from hle)
        have HMM := Aside0.mk hmm
        simp only at hx_0 hx_1
        have HLN := Aside0.mk (line_eq F0 F1 (of_decide_eq_true hsm) 20 (Nat.le_refl _))
        clear hp hta htk hle hsm hmm
        obtain ⟨bok, hbok⟩ : ∃ b, recOk ⟨F0, F1⟩ = b := ⟨_, rfl⟩
        have HRT := Aside0.mk (show pax_Right.f F0 F1 = some bok by unfold pax_Right.f; rw [← hbok]; rfl)
        have HOK := Aside0.mk hbok
        clear hbok
        cases bok
        · have hnot : l0.all recOk = false := by
            rw [List.all_eq_false]
            exact ⟨_, HMM.out, by rw [HOK.out]; simp⟩
          have hv := HV.out
          rw [if_neg (by rw [hnot]; simp)] at hv
          obtain ⟨rfl, rfl⟩ := Prod.mk.inj hv
          clear hv hnot HV
          go_wp2_with (first | ((with_reducible refine gate_dst (N := 6) rfl ?_); refine box_event ?hg (N := 6) ?hd (cs := #[.string (⟨#[]⟩ : ByteArray), .string (⟨#[]⟩ : ByteArray)]) (t := 41) ?hr ?_; (case hd => rfl); (case hg => rfl); (case hr => first | (go_simp; done) | (go_simp; rfl)); intro gb hg_ w18 hbox hb; have n1_ := Aside0.mk (below_step HB.out hb); have n2_ := Aside0.mk (isB_below HI.out hb); have n3_ := Aside0.mk hbox; have n4_ := Aside0.mk (show w.heap.size ≤ gb by rw [hg_]; exact below_size HB.out); clear HB HI; have HB := n1_; have HI := n2_; have BK := n3_; have GE := n4_; clear n1_ n2_ n3_ n4_ hb hbox hg_; have hcz0 : w18.cell? ⟨gb, 0, none⟩ = some (.string (⟨#[]⟩ : ByteArray)) := (blk_cell BK.out 0).trans rfl; have hcz1 : w18.cell? ⟨gb, 1, none⟩ = some (.string (⟨#[]⟩ : ByteArray)) := (blk_cell BK.out 1).trans rfl; have hfz0 := blk_frozen BK.out 0; have hfz1 := blk_frozen BK.out 1) | ((with_reducible refine gate_store (t := 41) (p := 6) rfl ?_); refine store_event (t := 41) (p := 6) (v := ?vo) (w1 := ((w18.setCell ⟨gb, 0, none⟩ (.string F0)).setCell ⟨gb, 1, none⟩ (.string F1))) ?hg ?ho ?hn ?hr ?_; (case ho => rfl); (case hg => rfl); (case hn => rfl); (case hr => first | (go_simp; done) | (go_simp; rfl)); intro w20 hw; have m1_ := blk_put (cs := #[.string (⟨#[]⟩ : ByteArray), .string (⟨#[]⟩ : ByteArray)]) BK.out 0 (.string F0) rfl; have n2_ : Aside0 (w20.heap[gb]? = some (.cells #[.string F0, .string F1] 41 (0, 0))) := ⟨(by rw [hw]; refine blk_put (cs := #[.string F0, .string (⟨#[]⟩ : ByteArray)]) ?_ 1 _ rfl; exact m1_)⟩; have n3_ : Aside0 (Below w.heap.size w w20) := ⟨(by rw [hw]; exact below_set (below_set HB.out GE.out) GE.out)⟩; have n4_ := Aside0.mk (show IsBuilderF 53 5 w.heap.size w.heap.size (byteCells (linesL (l0.take i))) w20 by rw [hw]; exact isB_set (isB_set HI.out BK.out (by decide) (by decide) 0 _) m1_ (by decide) (by decide) 1 _); clear hw m1_ BK HB HI hcz0 hcz1 hfz0 hfz1; have BK := n2_; have HB := n3_; have HI := n4_; clear n2_ n3_ n4_; have hcz0 : w20.cell? ⟨gb, 0, none⟩ = some (.string F0) := (blk_cell BK.out 0).trans rfl; have hcz1 : w20.cell? ⟨gb, 1, none⟩ = some (.string F1) := (blk_cell BK.out 1).trans rfl; have hfz0 := blk_frozen BK.out 0; have hfz1 := blk_frozen BK.out 1) | (go_at_call 23; refine (pax_Right.calls F0 F1 _ _ HRT.out).mono ?_; rintro e w22 ⟨rfl, hb⟩; have n1_ := Aside0.mk (below_step HB.out hb); have n2_ := Aside0.mk (isB_below HI.out hb); have n3_ := Aside0.mk (blk_below BK.out hb); clear HB HI BK hb hcz0 hcz1 hfz0 hfz1; have HB := n1_; have HI := n2_; have BK := n3_; clear n1_ n2_ n3_; have hcz0 : w22.cell? ⟨gb, 0, none⟩ = some (.string F0) := (blk_cell BK.out 0).trans rfl; have hcz1 : w22.cell? ⟨gb, 1, none⟩ = some (.string F1) := (blk_cell BK.out 1).trans rfl; have hfz0 := blk_frozen BK.out 0; have hfz1 := blk_frozen BK.out 1))
          go_ret2
          exact ⟨_, rfl, Kd.Z_nil _ _ _, HB.out⟩
        · clear HMM
          go_wp2_with (first | ((with_reducible refine gate_dst (N := 6) rfl ?_); refine box_event ?hg (N := 6) ?hd (cs := #[.string (⟨#[]⟩ : ByteArray), .string (⟨#[]⟩ : ByteArray)]) (t := 41) ?hr ?_; (case hd => rfl); (case hg => rfl); (case hr => first | (go_simp; done) | (go_simp; rfl)); intro gb hg_ w18 hbox hb; have n1_ := Aside0.mk (below_step HB.out hb); have n2_ := Aside0.mk (isB_below HI.out hb); have n3_ := Aside0.mk hbox; have n4_ := Aside0.mk (show w.heap.size ≤ gb by rw [hg_]; exact below_size HB.out); clear HB HI; have HB := n1_; have HI := n2_; have BK := n3_; have GE := n4_; clear n1_ n2_ n3_ n4_ hb hbox hg_; have hcz0 : w18.cell? ⟨gb, 0, none⟩ = some (.string (⟨#[]⟩ : ByteArray)) := (blk_cell BK.out 0).trans rfl; have hcz1 : w18.cell? ⟨gb, 1, none⟩ = some (.string (⟨#[]⟩ : ByteArray)) := (blk_cell BK.out 1).trans rfl; have hfz0 := blk_frozen BK.out 0; have hfz1 := blk_frozen BK.out 1) | ((with_reducible refine gate_store (t := 41) (p := 6) rfl ?_); refine store_event (t := 41) (p := 6) (v := ?vo) (w1 := ((w18.setCell ⟨gb, 0, none⟩ (.string F0)).setCell ⟨gb, 1, none⟩ (.string F1))) ?hg ?ho ?hn ?hr ?_; (case ho => rfl); (case hg => rfl); (case hn => rfl); (case hr => first | (go_simp; done) | (go_simp; rfl)); intro w20 hw; have m1_ := blk_put (cs := #[.string (⟨#[]⟩ : ByteArray), .string (⟨#[]⟩ : ByteArray)]) BK.out 0 (.string F0) rfl; have n2_ : Aside0 (w20.heap[gb]? = some (.cells #[.string F0, .string F1] 41 (0, 0))) := ⟨(by rw [hw]; refine blk_put (cs := #[.string F0, .string (⟨#[]⟩ : ByteArray)]) ?_ 1 _ rfl; exact m1_)⟩; have n3_ : Aside0 (Below w.heap.size w w20) := ⟨(by rw [hw]; exact below_set (below_set HB.out GE.out) GE.out)⟩; have n4_ := Aside0.mk (show IsBuilderF 53 5 w.heap.size w.heap.size (byteCells (linesL (l0.take i))) w20 by rw [hw]; exact isB_set (isB_set HI.out BK.out (by decide) (by decide) 0 _) m1_ (by decide) (by decide) 1 _); clear hw m1_ BK HB HI hcz0 hcz1 hfz0 hfz1; have BK := n2_; have HB := n3_; have HI := n4_; clear n2_ n3_ n4_; have hcz0 : w20.cell? ⟨gb, 0, none⟩ = some (.string F0) := (blk_cell BK.out 0).trans rfl; have hcz1 : w20.cell? ⟨gb, 1, none⟩ = some (.string F1) := (blk_cell BK.out 1).trans rfl; have hfz0 := blk_frozen BK.out 0; have hfz1 := blk_frozen BK.out 1) | (go_at_call 23; refine (pax_Right.calls F0 F1 _ _ HRT.out).mono ?_; rintro e w22 ⟨rfl, hb⟩; have n1_ := Aside0.mk (below_step HB.out hb); have n2_ := Aside0.mk (isB_below HI.out hb); have n3_ := Aside0.mk (blk_below BK.out hb); clear HB HI BK hb hcz0 hcz1 hfz0 hfz1; have HB := n1_; have HI := n2_; have BK := n3_; clear n1_ n2_ n3_; have hcz0 : w22.cell? ⟨gb, 0, none⟩ = some (.string F0) := (blk_cell BK.out 0).trans rfl; have hcz1 : w22.cell? ⟨gb, 1, none⟩ = some (.string F1) := (blk_cell BK.out 1).trans rfl; have hfz0 := blk_frozen BK.out 0; have hfz1 := blk_frozen BK.out 1) | (go_at_call 25; refine (pax_line.calls 20 F0 F1 _ _ HLN.out (HT.out.below HB.out)).mono ?_; rintro e w24 ⟨rfl, hb⟩; have n1_ := Aside0.mk (below_step HB.out hb); have n2_ := Aside0.mk (isB_below HI.out hb); have n3_ := Aside0.mk (blk_below BK.out hb); clear HB HI BK hb hcz0 hcz1 hfz0 hfz1; have HB := n1_; have HI := n2_; have BK := n3_; clear n1_ n2_ n3_; have hcz0 : w24.cell? ⟨gb, 0, none⟩ = some (.string F0) := (blk_cell BK.out 0).trans rfl; have hcz1 : w24.cell? ⟨gb, 1, none⟩ = some (.string F1) := (blk_cell BK.out 1).trans rfl; have hfz0 := blk_frozen BK.out 0; have hfz1 := blk_frozen BK.out 1) | (go_at_call 24; refine (Tryd.Builder_WriteString_k w.heap.size w.heap.size _ _ _ HI.out (by have := HLE.out; have := HC3.out; rw [byteCells_length, tx_size]; omega) (below_size HB.out)).mono ?_; rintro e w26 ⟨rfl, h1, b1, k1⟩; have n1_ := Aside0.mk (HB.out.trans b1); have n2_ := Aside0.mk h1; clear HB HI BK hcz0 hcz1 hfz0 hfz1 h1 b1 k1; have HB := n1_; have HI := n2_; clear n1_ n2_))
          obtain ⟨k1, rfl⟩ : ∃ k1, gk = k1 + 1 := ⟨gk - 1, by have := HK.out; omega⟩
          go_roundg k1
          case measure => omega
          case rel => exact ⟨i + 1, (by first | rfl | (rw [next_i i (by have := HC1.out; omega)])), ⟨by rw [HTK.out, List.all_append, HO.out, List.all_cons, HOK.out]; rfl⟩, ⟨by rw [HTA.out, byteCells_append]; exact Or.inr HI.out⟩, ⟨by have := HK.out; omega⟩, ⟨by omega⟩, HB⟩
      · have c13b0 : decide ((i : Int) < (l0.length : Int)) = false := decide_eq_false (by omega)
        have hi : i = l0.length := by omega
        subst hi
        rw [List.take_length] at HO HI
        have hv := HV.out
        rw [if_pos HO.out] at hv
        by_cases cc : 1000 < l0.length ∨ 1048576 < (linesL l0).length
        · rw [if_pos cc] at hv
          obtain ⟨rfl, rfl⟩ := Prod.mk.inj hv
          clear hv HV
          go_wp2_with (first | (go_at_call 26; refine (Tryd.Builder_Len_f w.heap.size w.heap.size _ _ HI.out).mono ?_; rintro e w30 ⟨rfl, rfl⟩; rw [byteCells_length]))
          all_goals (go_ret2; exact ⟨_, rfl, Kd.Z_nil _ _ _, HB.out⟩)
        · rw [if_neg cc] at hv
          obtain ⟨rfl, rfl⟩ := Prod.mk.inj hv
          clear hv HV
          have kb := fun W => print_bytes (P := Tryd.prog) 9 22 5 Tryd.underlying9 Tryd.underlying22 Tryd.underlying5 (⟨(linesL l0).toArray⟩ : ByteArray) W
          go_wp2_with (first | (go_at_call 26; refine (Tryd.Builder_Len_f w.heap.size w.heap.size _ _ HI.out).mono ?_; rintro e w30 ⟨rfl, rfl⟩; rw [byteCells_length]) | (go_at_call 27; refine (Tryd.Builder_String_any_k w.heap.size w.heap.size _ _ HI.out (below_size HB.out)).mono ?_; rintro e w32 ⟨rfl, _, b1, _⟩; have n1_ := Aside0.mk (HB.out.trans b1); clear HB HI b1; have HB := n1_; clear n1_))
          all_goals (go_ret2; exact ⟨_, rfl, row_of _ _ _ (by have := HC3.out; omega) (below_size HB.out), bytes_below HB.out (below_size HB.out) _ _⟩)
  · rw [if_neg c] at h
    cases h
end Go.Proofs.YtcbeehchhhoeeaaDoor.P
