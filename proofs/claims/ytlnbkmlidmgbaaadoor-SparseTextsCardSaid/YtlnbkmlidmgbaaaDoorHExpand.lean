/- sparse.Expand: what it hands back for whatever parts, length and bytes. No conditions. -/
import Derived.Test.YtlnbkmlidmgbaaaDoorPx2
import Derived.Laws.CopyOwn
import Derived.StillTailTactics
namespace Go.Proofs.YtlnbkmlidmgbaaaDoor.P
open Go.RowKit Go.Proofs.YtlnbkmlidmgbaaaDoorW.PrintWords Go.Proofs.YtlnbkmlidmgbaaaDoorW.PrintLast Go.Proofs.YtlnbkmlidmgbaaaDoorW.PrintMore
attribute [local go_sem] max2_int min2_int max_two min_two max_three min_three max_four min_four
set_option linter.unusedVariables false
set_option linter.unusedSimpArgs false

/-- Parts' bytes laid over a file of noughts, in order. -/
def expandL : List S40 → List Int → List Int → Option (List Int)
  | [], out, _ => some out
  | p :: l, out, d => if 0 ≤ p.f0 ∧ 0 ≤ p.f1 ∧ p.f1 ≤ (d.length : Int) ∧ p.f0 + p.f1 ≤ (out.length : Int) then expandL l (splice out p.f0.toNat (d.take p.f1.toNat)) (d.drop p.f1.toNat) else none
def sparse_Expand.f (l0 : List S40) (a1 : Int) (l2 : List Int) : Option (List Int × Int) :=
  (sparse_Check.f (l0.length + 2) l0 (l2.length : Int) a1).bind fun t => if t = 0 then (if a1 > 1048576 then some (([] : List Int), 3) else (if 0 ≤ a1 then (expandL l0 (List.replicate a1.toNat 0) l2).map (fun x => (x, 0)) else none)) else some (([] : List Int), t)

/-- The cells of a row of bytes. -/
def u8c (l : List Int) : List Value := l.map (Value.int .u8)
theorem u8c_length (l : List Int) : (u8c l).length = l.length := List.length_map ..
theorem u8c_splice (l x : List Int) (n : Nat) : splice (u8c l) n (u8c x) = u8c (splice l n x) := by
  unfold splice u8c
  rw [List.map_append, List.map_append, List.map_take, List.map_drop, List.length_map]
section
variable {P : Program} {ops : Array Oper} {o : Oper} {rest : List Oper} {a : Act} {Q : Exit → Act → World → Prop}
theorem make_bytes {W : World} (hgd : o.guard = none) (t : TypeId) (x y : Operand) (ho : o.op = .makeSlice t x y) (n : Nat) (hx : a.eval x = .int .i64 (n : Int)) (hy : a.eval y = .int .i64 (n : Int)) (e : TypeId)
    (ht : P.underlying t = some (.slice e)) (hinfo : (P.info? e).map (fun i => (i.zero, i.size, i.bytes)) = some (some (.int .u8 0), 1, 1)) (hl : n ≤ 281474976710656)
    (h : ∀ g, g = W.heap.size → ∀ w1, w1.heap[g]? = some (.cells (u8c (List.replicate n 0)).toArray e (0, 0)) → Below W.heap.size W w1 → wpList P ops Q rest (a.put o.dst (.slice (some ⟨g, 0, none⟩) n n)) w1) : wpList P ops Q (o :: rest) a W := by
  obtain ⟨i0, hi, hzz⟩ := Option.map_eq_some_iff.1 hinfo
  simp only [Prod.mk.injEq] at hzz
  obtain ⟨hz0, hz1, hz2⟩ := hzz
  have hr := run_make (P := P) W t e i0 (.int .u8 0) ht hi hz0 .i64 .i64 (n : Int) (n : Int) (by omega) (by omega) (by rw [hz2]; omega) (by omega)
  simp only [Int.toNat_natCast] at hr
  rw [hz1, Nat.mul_one] at hr
  have hrun : (execOp a.eval o).run P W = .ok (.value (.slice (some ⟨W.heap.size, 0, none⟩) n n)) (W.alloc (.cells (u8c (List.replicate n 0)).toArray e (0, 0))) := by
    have hm : madeCells (Value.int .u8 0).cells n = (u8c (List.replicate n 0)).toArray := by
      apply Array.toList_inj.1
      rw [show (Value.int .u8 0).cells = #[Value.int .u8 0] from rfl, toList_madeCells_one]
      simp [u8c]
    rw [hm] at hr
    simp [execOp, ho, hx, hy, hr]
  exact Kd.event_run hgd hrun (h _ rfl _ (blk_new W _) (below_alloc (Below.refl _ _) _))
theorem copy_put {w : World} (hgd : o.guard = none) (d s : Operand) (dT sT : TypeId)
    (ho : o.op = .call { callee := .builtin .copy, args := #[d, s], argTypes := #[dT, sT] }) (elem : TypeId) (hu : P.underlying dT = some (.slice elem)) (hsz : (P.info? elem).map (·.size) = some 1)
    (dp sp : Option Addr) (dLen dCap sLen sCap : Nat) (hd : a.eval d = .slice dp dLen dCap) (hs : a.eval s = .slice sp sLen sCap)
    (g off : Nat) (cur : List Value) (t : TypeId) (hg : w.heap[g]? = some (.cells cur.toArray t (0, 0))) (cs : List Value) (hn : cs.length = Nat.min sLen dLen)
    (hpos : 0 < cs.length → dp = some ⟨g, off, none⟩ ∧ ∃ ad, sp = some ad ∧ ∀ j v, cs[j]? = some v → w.cell? (ad.add j) = some v)
    (hfit : off + cs.length ≤ cur.length) (h1 : ∀ v ∈ cs, v.oneCell' = true) (B : Nat) (w0 : World) (hb : Below B w0 w) (hBg : B ≤ g)
    (h : ∀ w', Aside0 (w'.heap[g]? = some (.cells (splice cur off cs).toArray t (0, 0))) → (∀ k, k ≠ g → w'.heap[k]? = w.heap[k]?) → Below B w0 w' → wpList P ops Q rest (a.put o.dst (goInt cs.length)) w') :
    wpList P ops Q (o :: rest) a w := by
  by_cases h0 : cs.length = 0
  · obtain rfl : cs = [] := List.eq_nil_of_length_eq_zero h0
    refine wpList_copy_nothing hgd d s dT sT ho elem hu hsz dp sp dLen dCap sLen sCap hd hs (by simpa using hn.symm) ?_
    exact h w ⟨show _ = _ by simpa [splice] using hg⟩ (fun _ _ => rfl) hb
  · obtain ⟨rfl, ad, rfl, hsrc⟩ := hpos (by omega)
    refine wpList_copy_own hgd d s dT sT ho elem hu hsz g off dLen dCap ad sLen sCap hd hs cur.toArray t hg cs hn hsrc (by simpa using hfit) h1 ?_
    exact h _ ⟨show _ = _ by simpa [splice] using setRow_heap w g _ _ t _ hg⟩ (fun k hk => setRow_other w g k _ hk) (below_setRow hb hBg _)
end
theorem src_cells {w : World} {A : Option Addr} {x : List Int} (h : Kd.C (Kd.int .u8) w A x.length x) (m : Nat) (hm : m ≤ x.length) (h0 : 0 < m) :
    ∃ ad, A = some ad ∧ ∀ W, Below w.heap.size w W → ∀ j v, (u8c (x.take m))[j]? = some v → W.cell? (ad.add j) = some v := by
  obtain ⟨ad, e, _⟩ := Kd.at_int h 0 (by omega) (by omega)
  subst e
  refine ⟨ad, rfl, fun W hb j v hj => ?_⟩
  unfold u8c at hj
  rw [List.getElem?_map] at hj
  obtain ⟨y, hy, rfl⟩ := Option.map_eq_some_iff.1 hj
  obtain ⟨hl, hy2⟩ := List.getElem?_eq_some_iff.1 hy
  have hjm : j < m := by rw [List.length_take] at hl; omega
  obtain ⟨ad3, e3, hx⟩ := Kd.at_int h (j : Int) (by omega) (by omega)
  obtain rfl := Option.some.inj e3
  rw [Int.toNat_natCast] at hx
  have hr : rd x (j : Int) = y := by
    rw [← hy2, List.getElem_take]
    unfold rd
    simp [List.getD, show j < x.length by omega]
  rw [hr] at hx
  exact (hb.cell (World.block_lt_of_cell? w _ hx)).trans hx
theorem expandL_drop (l : List S40) (i : Nat) (h : i < l.length) : l.drop i = rd_T40 l (i : Int) :: l.drop (i + 1) := by
  rw [List.drop_eq_getElem_cons h]
  congr 1
  unfold rd_T40
  simp [List.getD, h]

set_option maxHeartbeats 8000000 in
set_option maxRecDepth 100000 in
theorem sparse_Expand.calls (A0 : Option Addr) (c0 : Nat) (l0 : List S40) (a1 : Int) (A2 : Option Addr) (c2 : Nat) (l2 : List Int) (r1 : List Int) (r2 : Int) (w : World) (hr0 : Kd.C k40 w A0 l0.length l0) (hc0 : l0.length ≤ c0) (hr2 : Kd.C (Kd.int .u8) w A2 l2.length l2) (hc2 : l2.length ≤ c2) (h : sparse_Expand.f l0 a1 l2 = some (r1, r2)) :
    Calls Tryd.prog 12 #[.slice A0 l0.length c0, .int .i64 a1, .slice A2 l2.length c2] w fun e w' => ∃ v0_ : Value, e = .returned (.tuple #[v0_, .int .u16 r2]) ∧ Kd.R (Kd.int .u8) 5 w' w.heap.size (fun _ => True) v0_ r1 ∧ Below w.heap.size w w' := by
  have hu40 := Tryd.underlying40
  have HMAX := Aside0.mk (show l0.length ≤ 9223372036854775807 from hr0.2.1)
  have HR0 := Aside0.mk hr0
  have HC0 := Aside0.mk hc0
  have HR2 := Aside0.mk hr2
  have HC2 := Aside0.mk hc2
  clear hr0 hc0 hr2 hc2
  have HB := Aside0.mk (Below.refl w.heap.size w)
  unfold sparse_Expand.f at h
  obtain ⟨t121, A40, H⟩ := Option.bind_eq_some_iff.mp h
  clear h
  have A4 := Aside0.mk A40
  clear A40
  by_cases c5 : t121 = 0
  · rw [if_pos c5] at H
    have c5b0 : (t121 == 0) = true := beq_iff_eq.mpr c5
    have c5b1 : (t121 != 0) = false := bne_eq_false_iff_eq.mpr c5
    clear c5
    by_cases c6 : a1 > 1048576
    · rw [if_pos c6] at H
      have c6b0 : decide (1048576 < a1) = true := decide_eq_true c6
      clear c6
      simp only [Option.some.injEq, Prod.mk.injEq] at H
      obtain ⟨rfl, rfl⟩ := H
      go_enter Tryd.func12, Tryd.ntmps12
      go_wp2_with (first | ((with_reducible refine gate_callee (f := 14) rfl ?_); refine goesL_ (some 16) rfl rfl Tryd.func14 (by kernel_rfl) rfl #[.slice A0 l0.length c0, .int .i64 (l2.length : Int), .int .i64 a1] rfl (by (try simp only [List.map_toArray, List.map_cons, List.map_nil]); first | done | rfl) ?_; (with_reducible refine (sparse_Check.calls _ _ _ l0 (l2.length : Int) a1 t121 _ HR0.out HC0.out A4.out).mono ?_); rintro e w7 ⟨rfl, hb⟩; refine ⟨_, rfl, ?_⟩; have n1_ := Aside0.mk (below_step HB.out hb); clear HB; have HB := n1_; clear n1_; clear hb))
      go_ret2
      exact ⟨_, rfl, Kd.R_nil _ _ _ _ _, by repeat (first | (with_reducible first | exact HB.out | apply below_alloc | apply pw_below_drewN | apply below_drew1) | exact HB.out)⟩
    · rw [if_neg c6] at H
      have c6b0 : decide (1048576 < a1) = false := decide_eq_false c6
      by_cases c8 : 0 ≤ a1
      · rw [if_pos c8] at H
        obtain ⟨n, rfl⟩ : ∃ n : Nat, a1 = (n : Int) := ⟨a1.toNat, (Int.toNat_of_nonneg c8).symm⟩
        have hn : n ≤ 1048576 := by omega
        rw [Int.toNat_natCast] at H
        clear c6 c8
        obtain ⟨r, hr, h2⟩ := Option.map_eq_some_iff.1 H
        obtain ⟨rfl, rfl⟩ := Prod.mk.inj h2
        have H' := Aside0.mk hr
        have HN := Aside0.mk hn
        clear H h2 hr hn
        go_enter Tryd.func12, Tryd.ntmps12
        go_wp2_with (first | ((with_reducible refine gate_callee (f := 14) rfl ?_); refine goesL_ (some 16) rfl rfl Tryd.func14 (by kernel_rfl) rfl #[.slice A0 l0.length c0, .int .i64 (l2.length : Int), .int .i64 (n : Int)] rfl (by (try simp only [List.map_toArray, List.map_cons, List.map_nil]); first | done | rfl) ?_; (with_reducible refine (sparse_Check.calls _ _ _ l0 (l2.length : Int) (n : Int) t121 _ HR0.out HC0.out A4.out).mono ?_); rintro e w10 ⟨rfl, hb⟩; refine ⟨_, rfl, ?_⟩; have n1_ := Aside0.mk (below_step HB.out hb); clear HB; have HB := n1_; clear n1_; clear hb) | ((with_reducible refine gate_dst (N := 23) rfl ?_); refine make_bytes rfl 22 _ _ rfl n rfl rfl 5 Tryd.underlying22 info5 (by have := HN.out; omega) ?_; intro g hg w11 hbox hb; have n1_ := Aside0.mk (below_step (by repeat (first | (with_reducible first | exact HB.out | apply below_alloc | apply pw_below_drewN | apply below_drew1) | exact HB.out)) hb); have HG0 := Aside0.mk hbox; have HGE := Aside0.mk ((by rw [hg]; exact below_size (by repeat (first | (with_reducible first | exact HB.out | apply below_alloc | apply pw_below_drewN | apply below_drew1) | exact HB.out))) : w.heap.size ≤ g); clear HB; have HB := n1_; clear n1_ hb hbox hg))
        go_loopg [2, 26] l0.length (fun kq v2 v26 w' => ∃ (i : Nat) (A2' : Option Addr) (c2' : Nat) (x cur : List Int), v2 = .slice A2' x.length c2' ∧ v26 = .int .i64 (i : Int) ∧ Aside0 (expandL (l0.drop i) cur x = some r) ∧ Aside0 (l0.length ≤ i + kq) ∧ Aside0 (i ≤ l0.length) ∧ Aside0 (x.length ≤ c2') ∧ Aside0 (Kd.C (Kd.int .u8) w A2' x.length x) ∧ Aside0 (w'.heap[g]? = some (.cells (u8c cur).toArray 5 (0, 0))) ∧ Aside0 (cur.length = n) ∧ Aside0 (Below w.heap.size w w'))
        case atStart => exact ⟨0, A2, c2, l2, List.replicate n 0, rfl, rfl, H', ⟨by omega⟩, ⟨Nat.zero_le _⟩, HC2, HR2, HG0, ⟨List.length_replicate⟩, HB⟩
        case round =>
          clear H' HG0 HR2 HC2
          obtain ⟨i, A2', c2', x, cur, rfl, rfl, HE, HK, HI, HCx, HRx, HG, HL, HB⟩ := hrel
          have hE := HE.out
          have hI := HI.out
          clear HE
          by_cases c13 : i < l0.length
          · have c13b0 : decide ((i : Int) < (l0.length : Int)) = true := decide_eq_true (by omega)
            have c13b1 : decide (i < l0.length) = true := decide_eq_true c13
            rw [expandL_drop l0 i c13] at hE
            simp only [expandL] at hE
            obtain ⟨ad, e125, hx_0, hx_1⟩ := at_T40 HR0.out (i : Int) (by omega) (by omega)
            cases e125
            replace hx_0 := (HB.out.cell (World.block_lt_of_cell? w _ hx_0)).trans hx_0
            replace hx_1 := (HB.out.cell (World.block_lt_of_cell? w _ hx_1)).trans hx_1
            obtain ⟨p, hp⟩ : ∃ p, p = rd_T40 l0 (i : Int) := ⟨_, rfl⟩
            rw [← hp] at hE hx_0 hx_1
            rw [Int.toNat_natCast] at hx_0 hx_1
            clear hp
            by_cases hg0 : 0 ≤ p.f0 ∧ 0 ≤ p.f1 ∧ p.f1 ≤ (x.length : Int) ∧ p.f0 + p.f1 ≤ (cur.length : Int)
            · rw [if_pos hg0] at hE
              obtain ⟨q1, q2, q3, q4⟩ := hg0
              obtain ⟨F0, F1⟩ := p
              simp only at hE hx_0 hx_1 q1 q2 q3 q4
              obtain ⟨m0, rfl⟩ : ∃ m : Nat, F0 = (m : Int) := ⟨F0.toNat, (Int.toNat_of_nonneg q1).symm⟩
              obtain ⟨m1, rfl⟩ : ∃ m : Nat, F1 = (m : Int) := ⟨F1.toNat, (Int.toNat_of_nonneg q2).symm⟩
              have hm1 : m1 ≤ x.length := by omega
              have hm2 : m0 + m1 ≤ cur.length := by omega
              rw [Int.toNat_natCast, Int.toNat_natCast] at hE
              clear q1 q2 q3 q4
              have HM1 := Aside0.mk hm1
              have HM2 := Aside0.mk hm2
              have HE := Aside0.mk hE
              clear hE hm1 hm2 hI
              obtain ⟨i0, hi0, _, hsz0, _⟩ := info_parts info5
              have hLn := HL.out
              have h33 := cut_from (P := Tryd.prog) 22 5 .i64 Tryd.underlying22 hi0 1 hsz0 (some ⟨g, 0, none⟩) n n (m0 : Int) (by omega) (by have := HM2.out; omega)
              have h37 := cut_to (P := Tryd.prog) 22 5 .i64 Tryd.underlying22 hi0 A2' x.length c2' (m1 : Int) (by omega) (by have := HM1.out; omega) HCx.out
              have h42 := cut_from (P := Tryd.prog) 22 5 .i64 Tryd.underlying22 hi0 1 hsz0 A2' x.length c2' (m1 : Int) (by omega) (by have := HM1.out; omega)
              have hC := Kd.C_drop (m := m1) (c := c2') HRx.out HM1.out HCx.out
              simp only [Int.toNat_natCast] at h33 h37 h42
              obtain ⟨A33, hA33⟩ : ∃ A1, A1 = (if n = m0 then (some ⟨g, 0, none⟩) else ((some ⟨g, 0, none⟩) : Option Addr).map (·.add (m0 * 1))) := ⟨_, rfl⟩
              obtain ⟨L33, hL33⟩ : ∃ L, L = n - m0 := ⟨_, rfl⟩
              obtain ⟨A42, hA42⟩ : ∃ A1, A1 = (if c2' = m1 then A2' else (A2' : Option Addr).map (·.add (m1 * 1))) := ⟨_, rfl⟩
              obtain ⟨c42, hc42⟩ : ∃ c, c = c2' - m1 := ⟨_, rfl⟩
              obtain ⟨y, hy⟩ : ∃ y, y = x.drop m1 := ⟨_, rfl⟩
              have hyl : y.length = x.length - m1 := by rw [hy, List.length_drop]
              rw [← hA33, ← hL33] at h33
              rw [← hA42, ← hc42, ← hyl] at h42
              have hC42 : Kd.C (Kd.int .u8) w A42 y.length y := by rw [hA42, hy]; exact hC
              have HC42 := Aside0.mk hC42
              have Hc42 := Aside0.mk (show y.length ≤ c42 by have := HCx.out; omega)
              have HA33 := Aside0.mk (show 0 < m1 → A33 = some ⟨g, m0, none⟩ by
                intro h0
                have := HM2.out
                rw [hA33, if_neg (by omega), Option.map_some]
                simp [Addr.add]
                try omega)
              have HL33 := Aside0.mk hL33
              have HS := Aside0.mk (fun h0 => src_cells HRx.out m1 HM1.out h0)
              have hE2 := HE.out
              rw [← hy] at hE2
              have HE2 := Aside0.mk hE2
              have hgl : g < wr.heap.size := (Array.getElem?_eq_some_iff.1 HG.out).1
              have HGL := Aside0.mk hgl
              clear hC hA33 hL33 hA42 hc42 hy hyl hC42 hE2 HE HCx HRx hi0 hsz0 hLn hgl
              go_wp2_with (first | ((with_reducible refine gate_dst (N := 11) rfl ?_); refine box_event ?hg (N := 11) ?hd (cs := #[.int .i64 0, .int .i64 0]) (t := 40) ?hr ?_; (case hd => rfl); (case hg => rfl); (case hr => first | (go_simp; done) | (go_simp; rfl)); intro gb hg_ w18 hbox hb; have n1_ := Aside0.mk (below_step HB.out hb); have n2_ := Aside0.mk ((hb.block g HGL.out).trans HG.out); have n3_ := Aside0.mk hbox; have n4_ := Aside0.mk (show w.heap.size ≤ gb by rw [hg_]; exact below_size HB.out); have n5_ := Aside0.mk (show gb ≠ g by have := HGL.out; omega); clear HB HG; have HB := n1_; have HG := n2_; have BK := n3_; have GE := n4_; have GN := n5_; clear n1_ n2_ n3_ n4_ n5_ hb hbox hg_; have hcz0 : w18.cell? ⟨gb, 0, none⟩ = some (.int .i64 0) := (blk_cell BK.out 0).trans rfl; have hcz1 : w18.cell? ⟨gb, 1, none⟩ = some (.int .i64 0) := (blk_cell BK.out 1).trans rfl; have hfz0 := blk_frozen BK.out 0; have hfz1 := blk_frozen BK.out 1) | ((with_reducible refine gate_store (t := 40) (p := 11) rfl ?_); refine store_event (t := 40) (p := 11) (v := ?vo) (w1 := ((w18.setCell ⟨gb, 0, none⟩ (.int .i64 (m0 : Int))).setCell ⟨gb, 1, none⟩ (.int .i64 (m1 : Int)))) ?hg ?ho ?hn ?hr ?_; (case ho => rfl); (case hg => rfl); (case hn => rfl); (case hr => first | (go_simp; done) | (go_simp; rfl)); intro w20 hw; have n2_ : Aside0 (w20.heap[gb]? = some (.cells #[.int .i64 (m0 : Int), .int .i64 (m1 : Int)] 40 (0, 0))) := ⟨(by rw [hw]; refine blk_put (cs := #[.int .i64 (m0 : Int), .int .i64 0]) ?_ 1 _ rfl; refine blk_put (cs := #[.int .i64 0, .int .i64 0]) ?_ 0 _ rfl; exact BK.out)⟩; have n3_ : Aside0 (Below w.heap.size w w20) := ⟨(by rw [hw]; exact below_set (below_set HB.out GE.out) GE.out)⟩; have n4_ : Aside0 (w20.heap[g]? = some (.cells (u8c cur).toArray 5 (0, 0))) := ⟨(by rw [hw, Below.heap_setCell _ _ _ _ (fun h => GN.out h.symm), Below.heap_setCell _ _ _ _ (fun h => GN.out h.symm)]; exact HG.out)⟩; clear hw; clear BK HB HG hcz0 hcz1 hfz0 hfz1; have BK := n2_; have HB := n3_; have HG := n4_; clear n2_ n3_ n4_; have hcz0 : w20.cell? ⟨gb, 0, none⟩ = some (.int .i64 (m0 : Int)) := (blk_cell BK.out 0).trans rfl; have hcz1 : w20.cell? ⟨gb, 1, none⟩ = some (.int .i64 (m1 : Int)) := (blk_cell BK.out 1).trans rfl; have hfz0 := blk_frozen BK.out 0; have hfz1 := blk_frozen BK.out 1))
              · go_still_tail 8, (by kernel_rfl)
                refine copy_put rfl (.tmp 33) (.tmp 37) 22 22 rfl 5 Tryd.underlying22 (by kernel_rfl) A33 A2' L33 L33 m1 c2' rfl rfl g m0 (u8c cur) 5 HG.out (u8c (x.take m1)) ?hn ?hpos ?hfit ?h1 w.heap.size w ?hb HGE.out ?_
                case hn =>
                  have h1 := HM1.out; have h2 := HM2.out; have h3 := HL33.out; have h4 := HL.out
                  rw [u8c_length, List.length_take, h3]
                  show min m1 x.length = min m1 (n - m0)
                  omega
                case hpos =>
                  intro h0
                  have h1 := HM1.out
                  rw [u8c_length, List.length_take] at h0
                  have h0' : 0 < m1 := by omega
                  obtain ⟨ad2, e2, hc⟩ := HS.out h0'
                  exact ⟨HA33.out h0', ad2, e2, hc _ (pw_below_drewN HB.out 1)⟩
                case hfit =>
                  have h1 := HM1.out; have h2 := HM2.out
                  rw [u8c_length, u8c_length, List.length_take]
                  omega
                case h1 =>
                  intro v hv
                  obtain ⟨z, _, rfl⟩ := List.mem_map.1 hv
                  rfl
                case hb => exact pw_below_drewN HB.out 1
                intro w22 HG22 hk hB22
                have n1_ : Aside0 (w22.heap[gb]? = some (.cells #[.int .i64 (m0 : Int), .int .i64 (m1 : Int)] 40 (0, 0))) := ⟨(hk gb GN.out).trans BK.out⟩
                clear BK HB HG hcz0 hcz1 hfz0 hfz1 hk h33 h37
                have BK := n1_
                have HB := Aside0.mk hB22
                rw [u8c_splice] at HG22
                have hcz1 : w22.cell? ⟨gb, 1, none⟩ = some (.int .i64 (m1 : Int)) := (blk_cell BK.out 1).trans rfl
                have hfz1 := blk_frozen BK.out 1
                clear hB22 n1_
                go_wp2
                obtain ⟨k1, rfl⟩ : ∃ k1, gk = k1 + 1 := ⟨gk - 1, by have := HK.out; omega⟩
                go_roundg k1
                case measure => omega
                case rel => exact ⟨i + 1, A42, c42, y, splice cur m0 (x.take m1), rfl, by rw [show wrap64 ((i : Int) + 1) = ((i + 1 : Nat) : Int) by have := HMAX.out; unfold wrap64; omega], HE2, ⟨by have := HK.out; omega⟩, ⟨by omega⟩, Hc42, HC42, HG22, ⟨by rw [length_splice _ _ _ (by have h1 := HM1.out; have h2 := HM2.out; rw [List.length_take]; omega)]; exact HL.out⟩, HB⟩
            · rw [if_neg hg0] at hE
              cases hE
          · obtain rfl : i = l0.length := by omega
            have c13b0 : decide ((l0.length : Int) < (l0.length : Int)) = false := decide_eq_false (by omega)
            rw [List.drop_eq_nil_of_le (Nat.le_refl _)] at hE
            obtain rfl := Option.some.inj hE
            clear c13
            go_wp2
            go_ret2
            have hL := HL.out
            subst hL
            have hN := HN.out
            refine ⟨_, rfl, Kd.R_of_own (enc := Value.int .u8) (h1 := fun _ => rfl) ⟨by rw [Nat.mul_one]; exact u8c_length _, .inr ⟨g, _, _, rfl, HGE.out, HG.out, Nat.le_refl _, by unfold maxLen; omega, by rw [Nat.mul_one]; exact u8c_length _, ?_⟩⟩ (fun _ _ => trivial), by repeat (first | (with_reducible first | exact HB.out | apply below_alloc | apply pw_below_drewN | apply below_drew1) | exact HB.out)⟩
            rw [Nat.mul_one]
            exact List.take_of_length_le (by rw [u8c_length]; exact Nat.le_refl _)
      · rw [if_neg c8] at H
        cases H
  · rw [if_neg c5] at H
    have c5b0 : (t121 == 0) = false := beq_eq_false_iff_ne.mpr c5
    have c5b1 : (t121 != 0) = true := bne_iff_ne.mpr c5
    simp only [Option.some.injEq, Prod.mk.injEq] at H
    obtain ⟨rfl, rfl⟩ := H
    clear c5
    go_enter Tryd.func12, Tryd.ntmps12
    go_wp2_with (first | ((with_reducible refine gate_callee (f := 14) rfl ?_); refine goesL_ (some 16) rfl rfl Tryd.func14 (by kernel_rfl) rfl #[.slice A0 l0.length c0, .int .i64 (l2.length : Int), .int .i64 a1] rfl (by (try simp only [List.map_toArray, List.map_cons, List.map_nil]); first | done | rfl) ?_; (with_reducible refine (sparse_Check.calls _ _ _ l0 (l2.length : Int) a1 t121 _ HR0.out HC0.out A4.out).mono ?_); rintro e w7 ⟨rfl, hb⟩; refine ⟨_, rfl, ?_⟩; have n1_ := Aside0.mk (below_step HB.out hb); clear HB; have HB := n1_; clear n1_; clear hb))
    go_ret2
    exact ⟨_, rfl, Kd.R_nil _ _ _ _ _, by repeat (first | (with_reducible first | exact HB.out | apply below_alloc | apply pw_below_drewN | apply below_drew1) | exact HB.out)⟩
end Go.Proofs.YtlnbkmlidmgbaaaDoor.P
