/- HeadParts walked: it is true for all inputs. Its condition: head.magic holds what its text lays. -/
import Derived.Test.YtdeolcgabkkocaaDoorHRefPp
import Derived.Test.YtdeolcgabkkocaaDoorHBent
namespace Go.Proofs.YtdeolcgabkkocaaDoor.P
open Go Go.RowKit Go.Proofs.YtdeolcgabkkocaaDoorW.PrintWords Go.Proofs.YtdeolcgabkkocaaDoorW.PrintLast Go.Proofs.YtdeolcgabkkocaaDoorW.PrintMore
set_option linter.unusedVariables false
set_option linter.unusedSimpArgs false

def mudlarklaw08_HeadParts.Pure : Prop := True
set_option maxRecDepth 100000 in
set_option maxHeartbeats 8000000 in
theorem law_parts_calls (A : Option Addr) (n c : Nat) (l : List Int) (a m : Int) (w : World) (hr : Kd.C (Kd.int .u8) w A l.length l) (hn : n = l.length) (hc : n ≤ c) (hb : Bytes l) (hl : l.length ≤ 4611686018427387904) :
    Calls Tryd.prog 16 #[.slice A n c, .int .i64 a, .int .i64 m] w fun e w' => e = .returned (.bool true) ∧ Below w.heap.size w w' := by
  subst hn
  obtain ⟨L, ok, hL⟩ : ∃ L ok, partsR l a m = (L, ok) := ⟨_, _, rfl⟩
  obtain ⟨k1, hk1⟩ := Ev.rounds (g := fun k => head_Parts.f k l a m) (HeadParts_ev l hb hl a m)
  obtain ⟨k2, hk2⟩ := Ev.rounds (g := fun k => mudlarkref08_Parts.f k l a m) (RefParts_ev l hb hl a m)
  rw [hL] at hk1 hk2
  have HL21 := Aside0.mk (show L.length ≤ 21 by have := partsR_len l a m; rw [hL] at this; exact this)
  have H1 := Aside0.mk (fun (W : World) (hB : Below w.heap.size w W) => head_Parts.calls k1 (fun k_ => k_ < w.heap.size) A c l a m L ok W (Kd.V_mk hc (Kd.F_below (Kd.C_F (Kd.heap_int .u8) hr) hB)) hk1)
  have H2 := Aside0.mk (fun (W : World) (hB : Below w.heap.size w W) => mudlarkref08_Parts.calls k2 A c l a m L ok W (Kd.C_below hr hB) hc hk2)
  obtain ⟨n, hn⟩ : ∃ n, n = l.length := ⟨_, rfl⟩
  rw [← hn] at H1 H2
  rw [← hn]
  have HN := Aside0.mk hn
  clear hr hc hb hl hL hk1 hk2 hn
  go_enter Tryd.func16, Tryd.ntmps16
  go_upto_region 3 with (first | (go_at_call 29; refine (H1.out _ (Below.refl _ _)).mono ?_; rintro e w1 ⟨v1, rfl, hR1, hb1⟩; have HB1 := Aside0.mk hb1; have HR1 := Aside0.mk (Kd.R_mono hR1 (ok' := fun _ => True) (fun _ _ => trivial)); clear hb1 hR1) | (go_at_call 30; refine (H2.out _ HB1.out).mono ?_; rintro e w2 ⟨v2, rfl, hR2, hb2⟩; have HB2 := Aside0.mk (below_step HB1.out hb2); have HR2 := Aside0.mk hR2; have HR3 := Aside0.mk (Kd.R_below HR1.out hb2); clear hb2 hR2))
  obtain ⟨A1, c1, hv1⟩ := Kd.R_slice HR3.out
  obtain ⟨A2, c2, hv2⟩ := Kd.R_slice HR2.out
  subst hv1 hv2
  have HC1 := Aside0.mk (Kd.R_reads' HR3.out).2.2
  have HC2 := Aside0.mk (Kd.R_reads' HR2.out).2.2
  obtain ⟨q, hq⟩ : ∃ q, q = L.length := ⟨_, rfl⟩
  rw [← hq] at HC1 HC2 HL21 ⊢
  have HQ := Aside0.mk hq
  have e0 : ((q : Int) != (q : Int)) = false := bne_self_eq_false _
  have e1 : (ok != ok) = false := bne_self_eq_false _
  clear H1 H2 HR1 HR2 HR3 HB1 hq
  go_wp2
  go_loopg [11] q (fun kq v11 wx => ∃ i : Nat, v11 = .int .i64 (i : Int) ∧ Aside0 (i + kq = q) ∧ Aside0 (Below w2.heap.size w2 wx))
  case atStart => exact ⟨0, rfl, ⟨Nat.zero_add _⟩, ⟨Below.refl _ _⟩⟩
  case round =>
    obtain ⟨i, rfl, HI, HX⟩ := hrel
    clear e0 e1
    by_cases hlt : i < q
    · obtain ⟨ad1, hA1, hx0, hx1⟩ := at_T49 (Kd.C_below HC1.out HX.out) (i : Int) (by omega) (by omega)
      obtain ⟨ad2, hA2, hy0, hy1⟩ := at_T49 (Kd.C_below HC2.out HX.out) (i : Int) (by omega) (by omega)
      rw [Int.toNat_natCast] at hx0 hx1 hy0 hy1
      have p0 : (0 ≤ (i : Int)) = True := eq_true (by omega)
      have q0 : ((i : Int) < (q : Int)) = True := eq_true (by omega)
      have q1 : (i < q) = True := eq_true hlt
      have hmx : (i : Int) ≤ 21 := by have := HL21.out; omega
      have HLT := Aside0.mk hlt
      subst hA1 hA2
      generalize (rd_T49 L (i : Int)).f0 = y0 at hx0 hy0
      generalize (rd_T49 L (i : Int)).f1 = y1 at hx1 hy1
      clear hlt
      go_upto_region 8 with (fail)
      go_region_held3 (fun w' => w'.cell? (ad1.add (i * 2)) = some (.int .i64 y0) ∧ w'.cell? ⟨(ad1.add (i * 2)).block, (ad1.add (i * 2)).off + 1, none⟩ = some (.int .i64 y1) ∧ w'.cell? (ad2.add (i * 2)) = some (.int .i64 y0) ∧ w'.cell? ⟨(ad2.add (i * 2)).block, (ad2.add (i * 2)).off + 1, none⟩ = some (.int .i64 y1)) (go_keep) (fail)
      have HX2 := Aside0.mk (below_drew HX.out)
      generalize wr.drew = w9 at HX2 ⊢
      clear HX hx0 hx1 hy0 hy1
      go_wp2
      have hi1 := HI.out
      have hlt := HLT.out
      obtain ⟨k1, rfl⟩ : ∃ k1, gk = k1 + 1 := ⟨gk - 1, by omega⟩
      go_roundg k1
      case measure => omega
      case rel => exact ⟨i + 1, by go_num, ⟨by omega⟩, HX2⟩
    · obtain rfl : i = q := by have := HI.out; omega
      have q0 : ((i : Int) < (i : Int)) = False := eq_false (by omega)
      clear hlt
      go_wp2
      go_ret
      exact ⟨rfl, below_step HB2.out HX.out⟩
theorem byte_wrap (x : Int) (h : 0 ≤ x ∧ x < 256) : IntKind.i64.wrap x = x ∧ wrap64 x = x ∧ IntKind.i64.wrap (2 * x) = 2 * x ∧ wrap64 (2 * x) = 2 * x := by
  have e1 : wrap64 x = x := wrap64_id _ (by omega) (by omega)
  have e2 : wrap64 (2 * x) = 2 * x := wrap64_id _ (by omega) (by omega)
  exact ⟨by rw [i64_w]; exact e1, e1, by rw [i64_w]; exact e2, e2⟩
set_option maxRecDepth 100000 in
set_option maxHeartbeats 8000000 in
theorem mudlarklaw08_HeadParts.walks (A0 : Option Addr) (c0 : Nat) (l0 : List Int) (A1 : Option Addr) (c1 : Nat) (l1 : List Int) (A2 : Option Addr) (c2 : Nat) (l2 : List Int) (a3 a4 a5 : Int) (w : World) (hr0 : Kd.C (Kd.int .u8) w A0 l0.length l0) (hc0 : l0.length ≤ c0) (hb0 : Bytes l0) (hr1 : Kd.C (Kd.int .u8) w A1 l1.length l1) (hc1 : l1.length ≤ c1) (hb1 : Bytes l1) (hr2 : Kd.C (Kd.int .u8) w A2 l2.length l2) (hc2 : l2.length ≤ c2) (hb2 : Bytes l2) (h5 : 0 ≤ a5 ∧ a5 < 256) (HT_ : Tabs w) :
    Calls Tryd.prog 5 #[.slice A0 l0.length c0, .slice A1 l1.length c1, .slice A2 l2.length c2, .int .i64 a3, .int .i64 a4, .int .u8 a5] w fun e w' => e = .returned (.bool true) ∧ Below w.heap.size w w' := by
  have HT := Aside0.mk HT_
  have HLK := Aside0.mk law_known_calls
  have HBC := Aside0.mk (fun (W : World) (hB : Below w.heap.size w W) => bent_calls A1 c1 l1 A2 c2 l2 false W (Kd.C_below hr1 hB) hc1 hb1 (Kd.C_below hr2 hB) hc2 hb2)
  have HP0 := Aside0.mk (fun (W : World) (hB : Below w.heap.size w W) (hl : l0.length ≤ 600) => law_parts_calls A0 l0.length c0 l0 a3 a4 W (Kd.C_below hr0 hB) rfl hc0 hb0 (by omega))
  obtain ⟨n0, hn0⟩ : ∃ n, n = l0.length := ⟨_, rfl⟩
  obtain ⟨n1, hn1⟩ : ∃ n, n = l1.length := ⟨_, rfl⟩
  obtain ⟨n2, hn2⟩ : ∃ n, n = l2.length := ⟨_, rfl⟩
  rw [← hn0] at HP0
  rw [← hn1, ← hn2] at HBC
  rw [← hn0, ← hn1, ← hn2]
  obtain ⟨n6, hn6, hl6⟩ := tmod_nat a5 h5.1 6 (by decide)
  obtain ⟨w5, w5', w5a, w5b⟩ := byte_wrap a5 h5
  obtain ⟨w6, w6', w6a, w6b⟩ := byte_wrap (n6 : Int) ⟨by omega, by omega⟩
  clear hr0 hc0 hb0 hr1 hc1 hb1 hr2 hc2 hb2 hn0 hn1 hn2 HT_ w6a w6b hl6 h5
  go_enter Tryd.func5, Tryd.ntmps5
  by_cases h6 : 600 < n0
  · have q6 : ((600 : Int) < (n0 : Int)) = True := eq_true (by omega)
    have q6n : (600 < n0) = True := eq_true h6
    clear h6
    go_wp2_with (go_at_call 9; refine (HLK.out _ HT.out).mono ?_; rintro e w8 ⟨rfl, hb8⟩; have HB8 := Aside0.mk hb8; clear hb8)
    go_ret
    exact ⟨rfl, HB8.out⟩
  · have q6 : ((600 : Int) < (n0 : Int)) = False := eq_false (by omega)
    have q6n : (600 < n0) = False := eq_false h6
    have HL6 := Aside0.mk (show n0 ≤ 600 by omega)
    clear h6
    go_upto_region 4 with (first | (go_at_call 9; refine (HLK.out _ HT.out).mono ?_; rintro e w1 ⟨rfl, hb1⟩; have HB1 := Aside0.mk hb1; clear hb1) | (go_at_call 15; refine (HBC.out _ HB1.out).mono ?_; rintro e w2 ⟨v, l, rfl, HBP, HR2, hb2⟩; have HB2 := Aside0.mk (below_step HB1.out hb2); clear hb2))
    obtain ⟨A3, c3, hv⟩ := Kd.R_slice HR2.out
    subst hv
    have HC3 := Aside0.mk (Kd.R_reads' HR2.out)
    have HPX := Aside0.mk (fun (W : World) (hB : Below w2.heap.size w2 W) (a m : Int) => law_parts_calls A3 l.length c3 l a m W (Kd.C_below HC3.out.2.2 hB) rfl HC3.out.2.1 HBP.out.blk.bytes (by rw [HBP.out.blk.len]; decide))
    go_wp2_with (first
      | (go_at_call 16; (with_reducible refine (HP0.out _ HB2.out HL6.out).mono ?_); rintro e w4 ⟨rfl, hb4⟩; have H4 := Aside0.mk hb4; clear hb4)
      | (go_at_call 16; (with_reducible refine (HPX.out _ H4.out 386 (n6 : Int)).mono ?_); rintro e w5 ⟨rfl, hb5⟩; have H5 := Aside0.mk (below_step H4.out hb5); clear hb5)
      | (go_at_call 16; (with_reducible refine (HPX.out _ H5.out a3 a4).mono ?_); rintro e w6 ⟨rfl, hb6⟩; have H6 := Aside0.mk (below_step H5.out hb6); clear hb6)
      | (go_at_call 16; (with_reducible refine (HPX.out _ H6.out (2 * a5) 30).mono ?_); rintro e w7 ⟨rfl, hb7⟩; have H7 := Aside0.mk (below_step H6.out hb7); clear hb7))
    go_ret
    exact ⟨rfl, below_step HB2.out H7.out⟩
theorem mudlarklaw08_HeadParts.walk (P : mudlarklaw08_HeadParts.Pure) (a0 : Option Addr) (len0 cap0 : Nat) (z0 : List Int) (a1 : Option Addr) (len1 cap1 : Nat) (z1 : List Int) (a2 : Option Addr) (len2 cap2 : Nat) (z2 : List Int) (a3 a4 a5 : Int) (w : World) (w0 : (a0 = none ∧ len0 = 0 ∧ cap0 = 0 ∧ z0 = []) ∨ ∃ x, a0 = some x ∧ len0 ≤ cap0 ∧ cap0 ≤ maxLen ∧ z0.length = cap0 ∧ (∀ i, i < z0.length → w.cell? (x.add i) = some (.int .u8 (z0.getD i 0))) ∧ ∀ n ∈ z0, (Lit.int .u8 n).wf = true) (y0 : len0 * 1 ≤ 140737488351232)
    (w1 : (a1 = none ∧ len1 = 0 ∧ cap1 = 0 ∧ z1 = []) ∨ ∃ x, a1 = some x ∧ len1 ≤ cap1 ∧ cap1 ≤ maxLen ∧ z1.length = cap1 ∧ (∀ i, i < z1.length → w.cell? (x.add i) = some (.int .u8 (z1.getD i 0))) ∧ ∀ n ∈ z1, (Lit.int .u8 n).wf = true) (y1 : len1 * 1 ≤ 140737488351232)
    (w2 : (a2 = none ∧ len2 = 0 ∧ cap2 = 0 ∧ z2 = []) ∨ ∃ x, a2 = some x ∧ len2 ≤ cap2 ∧ cap2 ≤ maxLen ∧ z2.length = cap2 ∧ (∀ i, i < z2.length → w.cell? (x.add i) = some (.int .u8 (z2.getD i 0))) ∧ ∀ n ∈ z2, (Lit.int .u8 n).wf = true) (y2 : len2 * 1 ≤ 140737488351232) (w3 : (Lit.int .i64 a3).wf = true) (w4 : (Lit.int .i64 a4).wf = true) (w5 : (Lit.int .u8 a5).wf = true) (HT_ : Tabs w) :
    Calls Tryd.prog 5 #[.slice a0 len0 cap0, .slice a1 len1 cap1, .slice a2 len2 cap2, .int .i64 a3, .int .i64 a4, .int .u8 a5] w fun e w' => e = .returned (.bool true) ∧ Below w.heap.size w w' := by
  obtain ⟨l0, rfl, hr0, hm0, hw0, hc0⟩ := ReadsInt.ofRowC w0
  obtain ⟨l1, rfl, hr1, hm1, hw1, hc1⟩ := ReadsInt.ofRowC w1
  obtain ⟨l2, rfl, hr2, hm2, hw2, hc2⟩ := ReadsInt.ofRowC w2
  have h5 : 0 ≤ a5 ∧ a5 ≤ 255 := by simpa [Lit.wf, IntKind.min, IntKind.max, IntKind.signed, IntKind.bits] using w5
  exact mudlarklaw08_HeadParts.walks _ _ l0 _ _ l1 _ _ l2 a3 a4 a5 w (Kd.C_of_reads (d := (0 : Int)) (h1 := fun _ => rfl) hr0) hc0 (bytes_of_wf hw0) (Kd.C_of_reads (d := (0 : Int)) (h1 := fun _ => rfl) hr1) hc1 (bytes_of_wf hw1) (Kd.C_of_reads (d := (0 : Int)) (h1 := fun _ => rfl) hr2) hc2 (bytes_of_wf hw2) ⟨h5.1, by omega⟩ HT_
end Go.Proofs.YtdeolcgabkkocaaDoor.P
