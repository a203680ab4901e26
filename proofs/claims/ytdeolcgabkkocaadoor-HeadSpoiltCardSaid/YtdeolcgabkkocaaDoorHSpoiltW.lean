/- HeadSpoilt walked: it is true for every choice. Its condition: head.magic holds what its text lays. -/
import Derived.Test.YtdeolcgabkkocaaDoorHHeader
namespace Go.Proofs.YtdeolcgabkkocaaDoor.P
open Go Go.RowKit Go.Proofs.YtdeolcgabkkocaaDoorW.PrintWords Go.Proofs.YtdeolcgabkkocaaDoorW.PrintLast Go.Proofs.YtdeolcgabkkocaaDoorW.PrintMore
set_option linter.unusedVariables false
set_option linter.unusedSimpArgs false

def mudlarklaw08_HeadSpoilt.Pure : Prop := True
/-- What is short has error 21. -/
theorem parseN_short (l : List Int) (h : ¬ l.length = 512) : parseN l = 21 := by
  unfold parseN parseH
  rw [if_pos h]
/-- One byte turned in a header of small ones. -/
theorem parseN_spoilt {h : S25} {l : List Int} (e : printO h = .ok l) (hlow : ∀ x ∈ l, x < 128) (i : Nat) (hi : i < 148) (v : Int) (hv : 0 ≤ v ∧ v < 128) :
    parseN (l.set i v) = if v = rd l i then 0 else 30 := by
  obtain ⟨b1, b2, b3, p⟩ := pr_inv e
  have hL : Low l := fun x hx => ⟨(p.bytes x hx).1, hlow x hx⟩
  have hlen := p.length
  have hss : sealF l = l := by rw [p.hl]; exact seal_seal _
  have hr := right_set l hL i (.inl hi) (by omega) v hv
  have hg : (sealF l)[i]'(by rw [sealF_length]; omega) = l[i]'(by omega) := by simp only [hss]
  rw [hg, hss] at hr
  have hrd : rd l i = l[i]'(by omega) := rd_at l i (by omega)
  rw [hrd]
  by_cases hvl : v = l[i]'(by omega)
  · rw [if_pos hvl, hvl, List.set_getElem_self]
    exact (parse_back e).2
  · rw [if_neg hvl]
    unfold parseN parseH
    rw [if_neg (by simp [hlen]), if_pos (by rw [hr]; exact decide_eq_false hvl)]
theorem addr0 (b i : Nat) : Addr.add ⟨b, 0, none⟩ i = ⟨b, i, none⟩ := by
  simp [Addr.add]
  try (intro h; omega)
/-- A header in a box of the call's own. -/
structure HB (w : World) (g : Nat) (h : S25) (v : Value) (W : World) : Prop where
  bk : W.heap[g]? = some (.cells (cells25 h v) 25 (0, 0))
  r : Kd.R k49 49 W w.heap.size (fun k => k < g) v h.f14
  b : Below w.heap.size w W
  lo : w.heap.size ≤ g
theorem HB.below {w W W' : World} {g : Nat} {h : S25} {v : Value} (p : HB w g h v W) (hb : Below W.heap.size W W') : HB w g h v W' :=
  ⟨blk_below p.bk hb, Kd.R_below p.r hb, below_step p.b hb, p.lo⟩
theorem HB.set {w W : World} {g : Nat} {h h' : S25} {v : Value} (p : HB w g h v W) (i : Nat) (u : Value) (hc : (cells25 h v).setIfInBounds i u = cells25 h' v) (h14 : h'.f14 = h.f14) : HB w g h' v (W.setCell ⟨g, i, none⟩ u) :=
  ⟨by rw [← hc]; exact blk_set p.bk i u, by rw [h14]; exact Kd.R_grown p.r (grown_setCell0 W g i u) (fun k hk e => by injection e with e; omega), pw_below_grown p.b (some g) p.b.size (grown_setCell0 W g i u) (fun k hk => by injection hk with hk; have := p.lo; omega), p.lo⟩
theorem HB.box {w W : World} {h : S25} {v : Value} {cs : Array Value} (hd : Hdr h v cs) (hr : Kd.R k49 49 W w.heap.size (fun _ => True) v h.f14) (hb : Below w.heap.size w W) : HB w W.heap.size h v ((W.alloc (.cells zeroH 25)).setRow W.heap.size cs) :=
  have hx := box_hdr W cs
  ⟨by rw [← hd.eq]; exact hx.1, Kd.R_below (Kd.R_mono (Kd.R_bound hr) (fun k hk => hk.2.2.1)) hx.2, below_step hb hx.2, hb.size⟩
theorem HB.c0 {w W : World} {g : Nat} {h : S25} {v : Value} (p : HB w g h v W) : W.cell? ⟨g, 0, none⟩ = some (.string h.f0) := (blk_cell p.bk 0).trans rfl
theorem HB.c2 {w W : World} {g : Nat} {h : S25} {v : Value} (p : HB w g h v W) : W.cell? ⟨g, 2, none⟩ = some (.int .i64 h.f2) := (blk_cell p.bk 2).trans rfl
theorem HB.c3 {w W : World} {g : Nat} {h : S25} {v : Value} (p : HB w g h v W) : W.cell? ⟨g, 3, none⟩ = some (.int .i64 h.f3) := (blk_cell p.bk 3).trans rfl
theorem HB.c4 {w W : World} {g : Nat} {h : S25} {v : Value} (p : HB w g h v W) : W.cell? ⟨g, 4, none⟩ = some (.int .i64 h.f4) := (blk_cell p.bk 4).trans rfl
theorem HB.c5 {w W : World} {g : Nat} {h : S25} {v : Value} (p : HB w g h v W) : W.cell? ⟨g, 5, none⟩ = some (.int .i64 h.f5) := (blk_cell p.bk 5).trans rfl
theorem HB.c6 {w W : World} {g : Nat} {h : S25} {v : Value} (p : HB w g h v W) : W.cell? ⟨g, 6, none⟩ = some (.int .u8 h.f6) := (blk_cell p.bk 6).trans rfl
theorem HB.c7 {w W : World} {g : Nat} {h : S25} {v : Value} (p : HB w g h v W) : W.cell? ⟨g, 7, none⟩ = some (.string h.f7) := (blk_cell p.bk 7).trans rfl
theorem HB.c8 {w W : World} {g : Nat} {h : S25} {v : Value} (p : HB w g h v W) : W.cell? ⟨g, 8, none⟩ = some (.int .i64 h.f8) := (blk_cell p.bk 8).trans rfl
theorem HB.c9 {w W : World} {g : Nat} {h : S25} {v : Value} (p : HB w g h v W) : W.cell? ⟨g, 9, none⟩ = some (.string h.f9) := (blk_cell p.bk 9).trans rfl
theorem HB.c10 {w W : World} {g : Nat} {h : S25} {v : Value} (p : HB w g h v W) : W.cell? ⟨g, 10, none⟩ = some (.string h.f10) := (blk_cell p.bk 10).trans rfl
theorem HB.c11 {w W : World} {g : Nat} {h : S25} {v : Value} (p : HB w g h v W) : W.cell? ⟨g, 11, none⟩ = some (.int .i64 h.f11) := (blk_cell p.bk 11).trans rfl
theorem HB.c12 {w W : World} {g : Nat} {h : S25} {v : Value} (p : HB w g h v W) : W.cell? ⟨g, 12, none⟩ = some (.int .i64 h.f12) := (blk_cell p.bk 12).trans rfl
theorem HB.c13 {w W : World} {g : Nat} {h : S25} {v : Value} (p : HB w g h v W) : W.cell? ⟨g, 13, none⟩ = some (.string h.f13) := (blk_cell p.bk 13).trans rfl
set_option maxRecDepth 100000 in
set_option maxHeartbeats 8000000 in
theorem mudlarklaw08_HeadSpoilt.walks (A0 : Option Addr) (c0 : Nat) (l0 : List Int) (a1 a2 a3 : Int) (w : World) (hr0 : Kd.C (Kd.int .u8) w A0 l0.length l0) (hc0 : l0.length ≤ c0) (hb0 : Bytes l0) (h1 : 0 ≤ a1 ∧ a1 < 65536) (h2 : 0 ≤ a2 ∧ a2 < 256) (h3 : 0 ≤ a3 ∧ a3 < 65536) (HT_ : Tabs w) :
    Calls Tryd.prog 7 #[.slice A0 l0.length c0, .int .u16 a1, .int .u8 a2, .int .u16 a3] w fun e w' => e = .returned (.bool true) ∧ Below w.heap.size w w' := by
  have HT := Aside0.mk HT_
  have HLK := Aside0.mk law_known_calls
  have HHC := Aside0.mk (Header_calls A0 c0 l0 w hr0 hc0 hb0)
  obtain ⟨n1, hn1, hl1⟩ := tmod_nat a1 h1.1 148 (by decide)
  obtain ⟨n3, hn3, hl3⟩ := tmod_nat a3 h3.1 512 (by decide)
  obtain ⟨x2, hx2, hl2⟩ := tmod_nat a2 h2.1 128 (by decide)
  have HN1 := Aside0.mk hl1
  have HN2 := Aside0.mk hl2
  have HN3 := Aside0.mk hl3
  have hz1 : IntKind.i64.wrap a1 = a1 := by rw [i64_w]; exact wrap64_id a1 (by omega) (by omega)
  have hz1' : wrap64 a1 = a1 := wrap64_id a1 (by omega) (by omega)
  have hz3 : IntKind.i64.wrap a3 = a3 := by rw [i64_w]; exact wrap64_id a3 (by omega) (by omega)
  have hz3' : wrap64 a3 = a3 := wrap64_id a3 (by omega) (by omega)
  clear hr0 hc0 hb0 h1 h2 h3 hl1 hl2 hl3 HT_
  go_enter Tryd.func7, Tryd.ntmps7
  go_upto_region 2 with (first | (go_at_call 8; refine HHC.out.mono ?_; rintro e w1 ⟨h0, v0, cs, HOK, HCS, rfl, HR1, hb1⟩; have HB1 := Aside0.mk hb1; clear hb1) | (refine wpList_store_rowTo rfl 25 _ _ rfl rfl w1.heap.size cs rfl rfl 25 zeroH (row2_alloc w1 zeroH 25) (by rw [HCS.out.size]; kernel_rfl) (by rw [HCS.out.size]; rfl) (HCS.out.one (Kd.R_val HR1.out).2) ?_))
  have H1 := Aside0.mk (HB.box HCS.out HR1.out HB1.out)
  change Code.wp _ _ _ _ ((w1.alloc (.cells zeroH 25)).setRow w1.heap.size cs)
  generalize (w1.alloc (.cells zeroH 25)).setRow w1.heap.size cs = w2 at H1 ⊢
  generalize w1.heap.size = g at H1 ⊢
  clear HCS HR1 HB1 HHC
  have c_ := H1.out.c0
  have y_ := blk_frozen H1.out.bk 0
  go_upto_region 3 with (fail)
  have H2 := Aside0.mk (H1.out.set (h' := { h0 with f0 := ⟨#[97]⟩ }) 0 (.string ⟨#[97]⟩) rfl rfl)
  generalize World.setCell _ _ _ = w3 at H2 ⊢
  obtain ⟨h1, hh_⟩ : ∃ h, h = ({ h0 with f0 := ⟨#[97]⟩ } : S25) := ⟨_, rfl⟩
  rw [← hh_] at H2
  clear c_ y_ H1 hh_
  have c_ := H2.out.c7
  have y_ := blk_frozen H2.out.bk 7
  go_upto_region 4 with (fail)
  have H3 := Aside0.mk (H2.out.set (h' := { h1 with f7 := ⟨#[]⟩ }) 7 (.string ⟨#[]⟩) rfl rfl)
  generalize World.setCell _ _ _ = w3 at H3 ⊢
  obtain ⟨h2, hh_⟩ : ∃ h, h = ({ h1 with f7 := ⟨#[]⟩ } : S25) := ⟨_, rfl⟩
  rw [← hh_] at H3
  clear c_ y_ H2 hh_
  have c_ := H3.out.c9
  have y_ := blk_frozen H3.out.bk 9
  go_upto_region 5 with (fail)
  have H4 := Aside0.mk (H3.out.set (h' := { h2 with f9 := ⟨#[]⟩ }) 9 (.string ⟨#[]⟩) rfl rfl)
  generalize World.setCell _ _ _ = w3 at H4 ⊢
  obtain ⟨h3, hh_⟩ : ∃ h, h = ({ h2 with f9 := ⟨#[]⟩ } : S25) := ⟨_, rfl⟩
  rw [← hh_] at H4
  clear c_ y_ H3 hh_
  have c_ := H4.out.c10
  have y_ := blk_frozen H4.out.bk 10
  go_upto_region 6 with (fail)
  have H5 := Aside0.mk (H4.out.set (h' := { h3 with f10 := ⟨#[]⟩ }) 10 (.string ⟨#[]⟩) rfl rfl)
  generalize World.setCell _ _ _ = w3 at H5 ⊢
  obtain ⟨h4, hh_⟩ : ∃ h, h = ({ h3 with f10 := ⟨#[]⟩ } : S25) := ⟨_, rfl⟩
  rw [← hh_] at H5
  clear c_ y_ H4 hh_
  have c_ := H5.out.c13
  have y_ := blk_frozen H5.out.bk 13
  go_upto_region 7 with (fail)
  have H6 := Aside0.mk (H5.out.set (h' := { h4 with f13 := ⟨#[]⟩ }) 13 (.string ⟨#[]⟩) rfl rfl)
  generalize World.setCell _ _ _ = w3 at H6 ⊢
  obtain ⟨h5, hh_⟩ : ∃ h, h = ({ h4 with f13 := ⟨#[]⟩ } : S25) := ⟨_, rfl⟩
  rw [← hh_] at H6
  clear c_ y_ H5 hh_
  have c_ := H6.out.c2
  have y_ := blk_frozen H6.out.bk 2
  go_upto_region 8 with (fail)
  have H7 := Aside0.mk (H6.out.set (h' := { h5 with f2 := 0 }) 2 (.int .i64 0) rfl rfl)
  generalize World.setCell _ _ _ = w3 at H7 ⊢
  obtain ⟨h6, hh_⟩ : ∃ h, h = ({ h5 with f2 := 0 } : S25) := ⟨_, rfl⟩
  rw [← hh_] at H7
  clear c_ y_ H6 hh_
  have c_ := H7.out.c3
  have y_ := blk_frozen H7.out.bk 3
  go_upto_region 9 with (fail)
  have H8 := Aside0.mk (H7.out.set (h' := { h6 with f3 := 0 }) 3 (.int .i64 0) rfl rfl)
  generalize World.setCell _ _ _ = w3 at H8 ⊢
  obtain ⟨h7, hh_⟩ : ∃ h, h = ({ h6 with f3 := 0 } : S25) := ⟨_, rfl⟩
  rw [← hh_] at H8
  clear c_ y_ H7 hh_
  have c_ := H8.out.c5
  have y_ := blk_frozen H8.out.bk 5
  go_upto_region 10 with (fail)
  have H9 := Aside0.mk (H8.out.set (h' := { h7 with f5 := 0 }) 5 (.int .i64 0) rfl rfl)
  generalize World.setCell _ _ _ = w3 at H9 ⊢
  obtain ⟨h8, hh_⟩ : ∃ h, h = ({ h7 with f5 := 0 } : S25) := ⟨_, rfl⟩
  rw [← hh_] at H9
  clear c_ y_ H8 hh_
  obtain ⟨A14, c14, rfl⟩ := Kd.R_slice H9.out.r
  have HPP := Aside0.mk (Print_calls h8 A14 c14 w3 (Kd.R_reads' H9.out.r).2.2 (Kd.R_reads' H9.out.r).2.1 (HT.out.below H9.out.b))
  obtain ⟨cs, hcs⟩ : ∃ c, c = cells25 h8 (.slice A14 h8.f14.length c14) := ⟨_, rfl⟩
  have HD := Aside0.mk (show Hdr h8 (.slice A14 h8.f14.length c14) cs from ⟨hcs⟩)
  have HBK := Aside0.mk (show w3.heap[g]? = some (.cells cs 25 (0, 0)) by rw [hcs]; exact H9.out.bk)
  rw [← hcs] at HPP
  clear hcs
  obtain ⟨n, hn⟩ : ∃ n, n = printN h8 := ⟨_, rfl⟩
  obtain ⟨l, hl⟩ : ∃ l, l = printL h8 := ⟨_, rfl⟩
  have HOL : Aside0 (n = 0 → l.length = 512 → printO h8 = .ok l) := ⟨by
    rw [hn, hl]
    unfold printN printL
    cases printO h8 with
    | err m => intro _ h; simp at h
    | ok l' => intro _ _; rfl⟩
  rw [← hn, ← hl] at HPP
  clear hn hl
  go_upto_region 11 with (first | (refine wpList_load_row rfl 25 _ rfl g rfl 25 cs (0, 0) _ HBK.out Tryd.underlying25 rfl (by rw [HD.out.size]; kernel_rfl) ?_) | (go_at_call 10; refine HPP.out.mono ?_; rintro e w4 ⟨v5, rfl, hR5, hb5⟩; have HR5 := Aside0.mk hR5; have HB5 := Aside0.mk (below_step H9.out.b hb5); clear hb5 hR5))
  obtain ⟨A5, c5, hv5⟩ := Kd.R_slice HR5.out
  by_cases hn0 : n = 0
  · by_cases hln : l.length = 512
    · subst hn0
      have HOK2 := Aside0.mk (HOL.out rfl hln)
      obtain ⟨b5, c6, rfl, hlo, hlt, cells, hbk5⟩ := Kd.R_form HR5.out (by omega)
      injection hv5 with hA5 _ hc5
      subst hA5 hc5
      have HLO := Aside0.mk hlo
      have HLN := Aside0.mk hln
      have q512 : ((l.length : Int) != 512) = false := by rw [hln]; rfl
      have HBT := Aside0.mk (pr_inv HOK2.out)
      have HBY : Aside0 (Bytes l) := ⟨by obtain ⟨b1, b2, b3, p⟩ := HBT.out; exact p.bytes⟩
      have HBK5 := Aside0.mk hbk5
      have HC5 := Aside0.mk (Kd.R_reads' HR5.out).2.2
      have HLC := Aside0.mk (Kd.R_reads' HR5.out).2.1
      have HB9 := Aside0.mk (show w.heap.size ≤ b5 from Nat.le_trans H9.out.b.size hlo)
      clear hlo hlt hbk5 HPP HBK HD HOL HBT
      go_wp2
      clear q512
      go_loopg [12] 512 (fun kq v12 wx => ∃ (i : Nat), v12 = .int .i64 (i : Int) ∧ wx = w4 ∧ Aside0 (i + kq = 512) ∧ Aside0 (∀ x ∈ l.take i, x < 128))
      case atStart => exact ⟨0, rfl, rfl, ⟨Nat.zero_add _⟩, ⟨fun x hx => by simp at hx⟩⟩
      case round =>
        obtain ⟨i, rfl, rfl, HI, HLO2⟩ := hrel
        by_cases hlt : i < 512
        · have q0 : ((i : Int) < 512) = True := eq_true (by omega)
          have q2 : decide ((i : Int) < 512) = true := decide_eq_true (by omega)
          have q0n : (i < 512) = True := eq_true hlt
          have hil : i < l.length := by have := HLN.out; omega
          have q3 : ((i : Int) < (l.length : Int)) = True := eq_true (by omega)
          have q4 : (i < l.length) = True := eq_true hil
          obtain ⟨ad, e5, hx⟩ := Kd.at_int HC5.out (i : Int) (by omega) (by omega)
          injection e5 with e5
          subst e5
          rw [Int.toNat_natCast, addr0] at hx
          by_cases hb : 127 < rd l (i : Int)
          · go_wp2_with (first | (go_at_call 9; refine (HLK.out _ (HT.out.below HB5.out)).mono ?_; rintro e w8 ⟨rfl, hb8⟩; have HB8 := Aside0.mk (below_step HB5.out hb8); clear hb8))
            go_ret
            exact ⟨rfl, HB8.out⟩
          · go_wp2
            have hi1 := HI.out
            have hb1 : rd l (i : Int) ≤ 127 := by omega
            obtain ⟨k1, rfl⟩ : ∃ k1, gk = k1 + 1 := ⟨gk - 1, by omega⟩
            go_roundg k1
            case measure => omega
            case rel => exact ⟨i + 1, by go_num, rfl, ⟨by omega⟩, ⟨fun x hx => by
              rw [List.take_succ_eq_append_getElem hil] at hx
              rcases List.mem_append.1 hx with hx | hx
              · exact HLO2.out x hx
              · rw [List.mem_singleton.1 hx, ← rd_at l i hil]; omega⟩⟩
        · have hi : i = 512 := by have := HI.out; omega
          subst hi
          have HLW : Aside0 (∀ x ∈ l, x < 128) := ⟨by have := HLO2.out; rwa [List.take_of_length_le (by have := HLN.out; omega)] at this⟩
          clear HLO2 HI
          obtain ⟨ad, e5, hx⟩ := Kd.at_int HC5.out (n1 : Int) (by omega) (by have := HN1.out; have := HLN.out; omega)
          injection e5 with e5
          subst e5
          rw [Int.toNat_natCast, addr0] at hx
          have y1 := blk_frozen HBK5.out n1
          have m1 := HN1.out
          have m3 := HN3.out
          have p1 : (0 ≤ (n1 : Int)) = True := eq_true (by omega)
          have p2 : ((n1 : Int) < 512) = True := eq_true (by omega)
          have p3 : (n1 < 512) = True := eq_true (by omega)
          have HLT3 := Aside0.mk (show (l.take n3).length = n3 by rw [List.length_take, HLN.out]; omega)
          have HCT := Kd.C_take HC5.out (show n3 ≤ l.length by rw [HLN.out]; omega)
          have HBYT : Bytes (l.take n3) := fun x hx => HBY.out x (List.mem_of_mem_take hx)
          have HPA := Aside0.mk (Parse_as (some ⟨b5, 0, none⟩) n3 c6 (l.take n3) 21 _ wr HCT HLT3.out (by have := HLC.out; have := HLN.out; omega) HBYT (HT.out.below HB5.out) (parseN_short _ (by rw [HLT3.out]; omega)) rfl)
          clear HCT HBYT
          have p4 : (0 ≤ (n3 : Int)) = True := eq_true (by omega)
          have p5 : ((n3 : Int) ≤ (c6 : Int)) = True := eq_true (by have := HLC.out; have := HLN.out; omega)
          have p6 : (n3 ≤ c6) = True := eq_true (by have := HLC.out; have := HLN.out; omega)
          go_upto_region 21 with (first | (go_at_call 11; refine HPA.out.mono ?_; rintro e w6 ⟨v15, ct, HCT, rfl, HR6, hb6⟩; have HB6 := Aside0.mk hb6; clear hb6) | (refine wpList_store_rowTo rfl 25 _ _ rfl rfl w6.heap.size ct rfl rfl 25 zeroH (row2_alloc w6 zeroH 25) (by rw [HCT.out.size]; kernel_rfl) (by rw [HCT.out.size]; rfl) (HCT.out.one (Kd.R_val HR6.out).2) ?_))
          have hb7 := below_step HB6.out (box_hdr w6 ct).2
          change Code.wp _ _ _ _ ((w6.alloc (.cells zeroH 25)).setRow w6.heap.size ct)
          generalize (w6.alloc (.cells zeroH 25)).setRow w6.heap.size ct = w7 at hb7 ⊢
          generalize w6.heap.size = g7
          have HR7 := Aside0.mk (Kd.R_below HR5.out hb7)
          have HB7 := Aside0.mk (below_step HB5.out hb7)
          have hx7 := pw_cell_below hb7 hx
          have y7 := blk_frozen (blk_below HBK5.out hb7) n1
          clear HPA hb7 HB6 HR6 HCT hx y1 HR5 HBK5 HC5 HB5
          go_upto_region 22 with (fail)
          have hp := Kd.R_putn HR7.out (n1 : Int) (x2 : Int)
          have hbs := pw_below_grown HB7.out (some b5) HB7.out.size (grown_setCell0 w7 b5 n1 (.int .u8 (x2 : Int))) (fun k hk => by injection hk with hk; have := HB9.out; omega)
          rw [Int.toNat_natCast] at hp
          have HC8 := Aside0.mk (Kd.R_reads' hp).2.2
          have HB8 := Aside0.mk hbs
          have HSL : Aside0 ((l.set n1 (x2 : Int)).length = 512) := ⟨by rw [List.length_set]; exact HLN.out⟩
          have HBS : Aside0 (Bytes (l.set n1 (x2 : Int))) := ⟨fun x hx => by
            rcases List.mem_or_eq_of_mem_set hx with hx | rfl
            · exact HBY.out x hx
            · have := HN2.out; omega⟩
          have hpn := parseN_spoilt HOK2.out HLW.out n1 (by omega) (x2 : Int) (by have := HN2.out; omega)
          change Code.wp _ _ _ _ (w7.setCell ⟨b5, n1, none⟩ (.int .u8 (x2 : Int)))
          change Aside0 (Kd.C (Kd.int .u8) (w7.setCell ⟨b5, n1, none⟩ (.int .u8 (x2 : Int))) _ _ _) at HC8
          generalize w7.setCell ⟨b5, n1, none⟩ (.int .u8 (x2 : Int)) = w8 at HC8 HB8 ⊢
          clear hp hbs HR7 HB7 hx7 y7 HOK2 HLW p1 p2 p3 p4 p5 p6 m3
          generalize rd l (n1 : Int) = was at hpn ⊢
          by_cases hv : (x2 : Int) = was
          · rw [if_pos hv] at hpn
            have HPN := Aside0.mk hpn
            have q9 : ((x2 : Int) != was) = false := by rw [hv]; exact bne_self_eq_false was
            clear hpn hv
            have HPA := Aside0.mk (Parse_as (some ⟨b5, 0, none⟩) 512 c6 (l.set n1 (x2 : Int)) 0 _ w8 HC8.out HSL.out (by have := HLC.out; have := HLN.out; omega) HBS.out (HT.out.below HB8.out) HPN.out rfl)
            go_upto_region 23 with (first | (go_at_call 11; refine HPA.out.mono ?_; rintro e w6 ⟨v15, ct, HCT, rfl, HR6, hb6⟩; have HB9 := Aside0.mk (below_step HB8.out hb6); clear hb6) | (refine wpList_store_rowTo rfl 25 _ _ rfl rfl w6.heap.size ct rfl rfl 25 zeroH (row2_alloc w6 zeroH 25) (by rw [HCT.out.size]; kernel_rfl) (by rw [HCT.out.size]; rfl) (HCT.out.one (Kd.R_val HR6.out).2) ?_))
            have HB10 := Aside0.mk (below_step HB9.out (box_hdr w6 ct).2)
            change Code.wp _ _ _ _ ((w6.alloc (.cells zeroH 25)).setRow w6.heap.size ct)
            generalize (w6.alloc (.cells zeroH 25)).setRow w6.heap.size ct = w10 at HB10 ⊢
            clear HPA HR6 HCT HB9
            go_wp2_with (first | (go_at_call 9; refine (HLK.out _ (HT.out.below HB10.out)).mono ?_; rintro e w11 ⟨rfl, hb11⟩; have HB11 := Aside0.mk (below_step HB10.out hb11); clear hb11))
            go_ret
            exact ⟨rfl, HB11.out⟩
          · rw [if_neg hv] at hpn
            have HPN := Aside0.mk hpn
            have q9 : ((x2 : Int) != was) = true := bne_iff_ne.2 hv
            clear hpn hv
            have HPA := Aside0.mk (Parse_as (some ⟨b5, 0, none⟩) 512 c6 (l.set n1 (x2 : Int)) 30 _ w8 HC8.out HSL.out (by have := HLC.out; have := HLN.out; omega) HBS.out (HT.out.below HB8.out) HPN.out rfl)
            go_upto_region 23 with (first | (go_at_call 11; refine HPA.out.mono ?_; rintro e w6 ⟨v15, ct, HCT, rfl, HR6, hb6⟩; have HB9 := Aside0.mk (below_step HB8.out hb6); clear hb6) | (refine wpList_store_rowTo rfl 25 _ _ rfl rfl w6.heap.size ct rfl rfl 25 zeroH (row2_alloc w6 zeroH 25) (by rw [HCT.out.size]; kernel_rfl) (by rw [HCT.out.size]; rfl) (HCT.out.one (Kd.R_val HR6.out).2) ?_))
            have HB10 := Aside0.mk (below_step HB9.out (box_hdr w6 ct).2)
            change Code.wp _ _ _ _ ((w6.alloc (.cells zeroH 25)).setRow w6.heap.size ct)
            generalize (w6.alloc (.cells zeroH 25)).setRow w6.heap.size ct = w10 at HB10 ⊢
            clear HPA HR6 HCT HB9
            go_wp2_with (first | (go_at_call 9; refine (HLK.out _ (HT.out.below HB10.out)).mono ?_; rintro e w11 ⟨rfl, hb11⟩; have HB11 := Aside0.mk (below_step HB10.out hb11); clear hb11))
            go_ret
            exact ⟨rfl, HB11.out⟩
    · have q512 : ((l.length : Int) != 512) = true := bne_iff_ne.2 (by omega)
      subst hn0 hv5
      clear hln HOL HPP HBK HD
      go_wp2_with (first | (go_at_call 9; refine (HLK.out _ (HT.out.below HB5.out)).mono ?_; rintro e w8 ⟨rfl, hb8⟩; have HB8 := Aside0.mk (below_step HB5.out hb8); clear hb8))
      go_ret
      exact ⟨rfl, HB8.out⟩
  · have q0 : (n != 0) = true := bne_iff_ne.2 hn0
    subst hv5
    clear hn0 HOL HPP HBK HD
    go_wp2_with (first | (go_at_call 9; refine (HLK.out _ (HT.out.below HB5.out)).mono ?_; rintro e w8 ⟨rfl, hb8⟩; have HB8 := Aside0.mk (below_step HB5.out hb8); clear hb8))
    go_ret
    exact ⟨rfl, HB8.out⟩
theorem bytes_of_wf {l : List Int} (h : ∀ n ∈ l, (Lit.int .u8 n).wf = true) : Bytes l := fun x hx => by
  have := h x hx
  simp [Lit.wf, IntKind.min, IntKind.max, IntKind.signed, IntKind.bits] at this
  omega
theorem mudlarklaw08_HeadSpoilt.walk (P : mudlarklaw08_HeadSpoilt.Pure) (a0 : Option Addr) (len0 cap0 : Nat) (z0 : List Int) (a1 a2 a3 : Int) (w : World) (w0 : (a0 = none ∧ len0 = 0 ∧ cap0 = 0 ∧ z0 = []) ∨ ∃ x, a0 = some x ∧ len0 ≤ cap0 ∧ cap0 ≤ maxLen ∧ z0.length = cap0 ∧ (∀ i, i < z0.length → w.cell? (x.add i) = some (.int .u8 (z0.getD i 0))) ∧ ∀ n ∈ z0, (Lit.int .u8 n).wf = true) (y0 : len0 * 1 ≤ 140737488351232) (w1 : (Lit.int .u16 a1).wf = true) (w2 : (Lit.int .u8 a2).wf = true) (w3 : (Lit.int .u16 a3).wf = true) (HT_ : Tabs w) :
    Calls Tryd.prog 7 #[.slice a0 len0 cap0, .int .u16 a1, .int .u8 a2, .int .u16 a3] w fun e w' => e = .returned (.bool true) ∧ Below w.heap.size w w' := by
  obtain ⟨l0, rfl, hr0, hm0, hw0, hc0⟩ := ReadsInt.ofRowC w0
  have h1 : 0 ≤ a1 ∧ a1 ≤ 65535 := by simpa [Lit.wf, IntKind.min, IntKind.max, IntKind.signed, IntKind.bits] using w1
  have h2 : 0 ≤ a2 ∧ a2 ≤ 255 := by simpa [Lit.wf, IntKind.min, IntKind.max, IntKind.signed, IntKind.bits] using w2
  have h3 : 0 ≤ a3 ∧ a3 ≤ 65535 := by simpa [Lit.wf, IntKind.min, IntKind.max, IntKind.signed, IntKind.bits] using w3
  exact mudlarklaw08_HeadSpoilt.walks _ _ l0 a1 a2 a3 w (Kd.C_of_reads (d := (0 : Int)) (h1 := fun _ => rfl) hr0) hc0 (bytes_of_wf hw0) ⟨h1.1, by omega⟩ ⟨h2.1, by omega⟩ ⟨h3.1, by omega⟩ HT_
end Go.Proofs.YtdeolcgabkkocaaDoor.P
