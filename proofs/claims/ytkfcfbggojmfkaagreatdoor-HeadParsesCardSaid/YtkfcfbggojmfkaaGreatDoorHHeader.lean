/- mudlarklaw08.Header: it hands back a header, with numbers of their kinds and short texts. No conditions. -/
import Derived.Test.YtkfcfbggojmfkaaGreatDoorHHeadK
import Derived.Test.YtkfcfbggojmfkaaGreatDoorHNames
import Derived.Test.YtkfcfbggojmfkaaGreatDoorHFloat
namespace Go.Proofs.YtkfcfbggojmfkaaGreatDoor.P
open Go Go.RowKit Go.Proofs.YtkfcfbggojmfkaaGreatDoorW.PrintWords Go.Proofs.YtkfcfbggojmfkaaGreatDoorW.PrintLast Go.Proofs.YtkfcfbggojmfkaaGreatDoorW.PrintMore
set_option linter.unusedVariables false
set_option linter.unusedSimpArgs false

def I64 (x : Int) : Prop := -9223372036854775808 ≤ x ∧ x ≤ 9223372036854775807
structure HdOk (h : S31) : Prop where
 n1 : I64 h.f1
 n2 : I64 h.f2
 n3 : I64 h.f3
 n4 : I64 h.f4
 n5 : I64 h.f5
 n11 : I64 h.f11
 n12 : I64 h.f12
 n16 : I64 h.f16
 k : 0 ≤ h.f6 ∧ h.f6 < 256
 s0 : h.f0.size ≤ 60
 s7 : h.f7.size ≤ 60
 s9 : h.f9.size ≤ 60
 s10 : h.f10.size ≤ 60
 s13 : h.f13.size ≤ 60
 way : 0 ≤ h.f8 ∧ h.f8 ≤ 2
 len : h.f14.length ≤ 4
 parts : ∀ x ∈ h.f14, I64 x.f0 ∧ I64 x.f1
def gV (l : List Int) (i : Int) : Int := if i < (l.length : Int) then rd l i else 0
theorem gV_f (l : List Int) (i : Int) (hi : 0 ≤ i) : mudlarklaw08_g.f l i = some (gV l i) := by
 unfold mudlarklaw08_g.f gV
 split
 ·first | rfl | rw [if_pos hi]
 ·rfl
theorem gV_byte (l : List Int) (hb : Bytes l) (i : Int) (hi : 0 ≤ i) : 0 ≤ gV l i ∧ gV l i < 256 := by
 unfold gV
 split
 ·obtain ⟨n, rfl⟩ := Int.eq_ofNat_of_zero_le hi
  rename_i h
  rw [rd_at l n (by omega)]
  exact hb _ (List.getElem_mem _)
 ·omega
def nameV (x : Int) : ByteArray := (mudlarklaw08_name.f x).getD ByteArray.empty
theorem nameV_f (x : Int) : mudlarklaw08_name.f x = some (nameV x) ∧ (nameV x).size ≤ 60 := by
 unfold nameV mudlarklaw08_name.f
 split
 ·exact ⟨rfl, by decide⟩
 ·split
  ·exact ⟨rfl, by decide⟩
  ·split
   ·exact ⟨rfl, by decide⟩
   ·split
    ·exact ⟨rfl, by decide⟩
    ·exact ⟨rfl, by show (1 : Nat) ≤ 60; decide⟩
def numV (x : Int) : Int := (mudlarklaw08_number.f x).getD 0
theorem numV_f (x : Int) (h : 0 ≤ x ∧ x < 256) : mudlarklaw08_number.f x = some (numV x) ∧ -1 ≤ numV x ∧ numV x ≤ 4611686018427387904 := by
 unfold numV mudlarklaw08_number.f
 simp only [Option.bind_some]
 have h7 : 0 ≤ Int.tmod x 7 ∧ Int.tmod x 7 < 7 := by rw [Int.tmod_eq_emod_of_nonneg h.1]; omega
 have hl : ((([2097151, 2097152, 8589934591, 8589934592, 1099511627776, (-1), 4611686018427387904] : List Int).length : Nat) : Int) = 7 := rfl
 split
 ·rw [if_pos h7.1, if_pos (by rw [hl]; exact h7.2)]
  refine ⟨rfl, ?_⟩
  show -1 ≤ rd _ _ ∧ rd _ _ ≤ 4611686018427387904
  obtain ⟨n, hn⟩ := Int.eq_ofNat_of_zero_le h7.1
  rw [hn] at h7 ⊢
  have hn7 : n < 7 := by omega
  match n, hn7 with
  | 0, _ => decide
  | 1, _ => decide
  | 2, _ => decide
  | 3, _ => decide
  | 4, _ => decide
  | 5, _ => decide
  | 6, _ => decide
 ·have : wrap64 x = x := wrap64_id x (by omega) (by omega)
  refine ⟨rfl, ?_⟩
  show -1 ≤ wrap64 x ∧ wrap64 x ≤ _
  rw [this]
  omega
theorem drawn_below {w w' : World} (h : Drawn0 w w') : Below w.heap.size w w' := by
 obtain ⟨m, rfl⟩ := h.out
 exact pw_below_drewN (Below.refl _ _) m
theorem tmod_nat (x : Int) (h : 0 ≤ x) (m : Int) (hm : 0 < m) : ∃ n : Nat, Int.tmod x m = (n : Int) ∧ (n : Int) < m := by
 rw [Int.tmod_eq_emod_of_nonneg h]
 exact ⟨(x % m).toNat, (Int.toNat_of_nonneg (Int.emod_nonneg _ (by omega))).symm, by rw [Int.toNat_of_nonneg (Int.emod_nonneg _ (by omega))]; exact Int.emod_lt_of_pos _ hm⟩
def kindsA : Array Value := #[.int .u8 48, .int .u8 49, .int .u8 50, .int .u8 51, .int .u8 52, .int .u8 53, .int .u8 54, .int .u8 55, .int .u8 120, .int .u8 103, .int .u8 76, .int .u8 75, .int .u8 83, .int .u8 122]
def kindsL : List Int := [48, 49, 50, 51, 52, 53, 54, 55, 120, 103, 76, 75, 83, 122]
theorem kinds_at (n : Nat) (h : n < 13) : kindsA[n]? = some (.int .u8 (kindsL.getD n 0)) ∧ 0 ≤ kindsL.getD n 0 ∧ kindsL.getD n 0 < 256 := by
 match n, h with
 | 0, _ => exact ⟨rfl, by decide, by decide⟩
 | 1, _ => exact ⟨rfl, by decide, by decide⟩
 | 2, _ => exact ⟨rfl, by decide, by decide⟩
 | 3, _ => exact ⟨rfl, by decide, by decide⟩
 | 4, _ => exact ⟨rfl, by decide, by decide⟩
 | 5, _ => exact ⟨rfl, by decide, by decide⟩
 | 6, _ => exact ⟨rfl, by decide, by decide⟩
 | 7, _ => exact ⟨rfl, by decide, by decide⟩
 | 8, _ => exact ⟨rfl, by decide, by decide⟩
 | 9, _ => exact ⟨rfl, by decide, by decide⟩
 | 10, _ => exact ⟨rfl, by decide, by decide⟩
 | 11, _ => exact ⟨rfl, by decide, by decide⟩
 | 12, _ => exact ⟨rfl, by decide, by decide⟩
theorem grown_setCell0 (w : World) (g i : Nat) (v : Value) : w.grownBy (w.setCell ⟨g, i, none⟩ v) (some g) :=
 ⟨rfl, rfl, rfl, by simp [World.setCell], fun k _ hne => Below.heap_setCell _ _ _ _ (fun e => hne (by rw [e]))⟩
structure HW (w w1 : World) (g : Nat) (h : S31) (v : Value) (W : World) : Prop where
 bk : W.heap[g]? = some (.cells (cells25 h v) 31 (0, 0))
 r : Kd.R k64 64 W w.heap.size (fun k => g < k) v h.f14
 b : Below w1.heap.size w1 W
theorem HW.below {w w1 W W' : World} {g : Nat} {h : S31} {v : Value} (p : HW w w1 g h v W) (hb : Below W.heap.size W W') : HW w w1 g h v W' :=
 ⟨blk_below p.bk hb, Kd.R_below p.r hb, below_step p.b hb⟩
theorem HW.set {w w1 W : World} {g : Nat} {h h' : S31} {v : Value} (p : HW w w1 g h v W) (hg : w1.heap.size ≤ g) (i : Nat) (u : Value) (hc : (cells25 h v).setIfInBounds i u = cells25 h' v) (h14 : h'.f14 = h.f14) : HW w w1 g h' v (W.setCell ⟨g, i, none⟩ u) :=
 ⟨by rw [← hc]; exact blk_set p.bk i u, by rw [h14]; exact Kd.R_grown p.r (grown_setCell0 W g i u) (fun k hk e => by injection e with e; omega), pw_below_grown p.b (some g) p.b.size (grown_setCell0 W g i u) (fun k hk => by injection hk with hk; omega)⟩
theorem HW.c6 {w w1 W : World} {g : Nat} {h : S31} {v : Value} (p : HW w w1 g h v W) : W.cell? ⟨g, 6, none⟩ = some (.int .u8 h.f6) := (blk_cell p.bk 6).trans rfl
theorem HW.c8 {w w1 W : World} {g : Nat} {h : S31} {v : Value} (p : HW w w1 g h v W) : W.cell? ⟨g, 8, none⟩ = some (.int .i64 h.f8) := (blk_cell p.bk 8).trans rfl
theorem HW.c9 {w w1 W : World} {g : Nat} {h : S31} {v : Value} (p : HW w w1 g h v W) : W.cell? ⟨g, 9, none⟩ = some (.string h.f9) := (blk_cell p.bk 9).trans rfl
theorem HW.c10 {w w1 W : World} {g : Nat} {h : S31} {v : Value} (p : HW w w1 g h v W) : W.cell? ⟨g, 10, none⟩ = some (.string h.f10) := (blk_cell p.bk 10).trans rfl
theorem HW.c11 {w w1 W : World} {g : Nat} {h : S31} {v : Value} (p : HW w w1 g h v W) : W.cell? ⟨g, 11, none⟩ = some (.int .i64 h.f11) := (blk_cell p.bk 11).trans rfl
theorem HW.c12 {w w1 W : World} {g : Nat} {h : S31} {v : Value} (p : HW w w1 g h v W) : W.cell? ⟨g, 12, none⟩ = some (.int .i64 h.f12) := (blk_cell p.bk 12).trans rfl
theorem HW.c13 {w w1 W : World} {g : Nat} {h : S31} {v : Value} (p : HW w w1 g h v W) : W.cell? ⟨g, 13, none⟩ = some (.string h.f13) := (blk_cell p.bk 13).trans rfl
theorem HW.c14 {w w1 W : World} {g : Nat} {h : S31} {v : Value} (p : HW w w1 g h v W) : W.cell? ⟨g, 14, none⟩ = some v := (blk_cell p.bk 14).trans rfl
theorem HW.c15 {w w1 W : World} {g : Nat} {h : S31} {v : Value} (p : HW w w1 g h v W) : W.cell? ⟨g, 15, none⟩ = some (.bool h.f15) := (blk_cell p.bk 15).trans rfl
theorem HW.c16 {w w1 W : World} {g : Nat} {h : S31} {v : Value} (p : HW w w1 g h v W) : W.cell? ⟨g, 16, none⟩ = some (.int .i64 h.f16) := (blk_cell p.bk 16).trans rfl
def HRel (w w1 : World) (g n : Nat) (W : World) : Prop := ∃ (h : S31) (v : Value), Aside0 (HdOk h) ∧ Aside0 (h.f14.length ≤ n) ∧ Aside0 (HW w w1 g h v W)
theorem HdOk.u6 {h : S31} (p : HdOk h) (x : Int) (hx : 0 ≤ x ∧ x < 256) : HdOk { h with f6 := x } := ⟨p.n1, p.n2, p.n3, p.n4, p.n5, p.n11, p.n12, p.n16, hx, p.s0, p.s7, p.s9, p.s10, p.s13, p.way, p.len, p.parts⟩
theorem HdOk.u8 {h : S31} (p : HdOk h) (x : Int) (hx : 0 ≤ x ∧ x ≤ 2) : HdOk { h with f8 := x } := ⟨p.n1, p.n2, p.n3, p.n4, p.n5, p.n11, p.n12, p.n16, p.k, p.s0, p.s7, p.s9, p.s10, p.s13, hx, p.len, p.parts⟩
theorem HdOk.u9 {h : S31} (p : HdOk h) (x : ByteArray) (hx : x.size ≤ 60) : HdOk { h with f9 := x } := ⟨p.n1, p.n2, p.n3, p.n4, p.n5, p.n11, p.n12, p.n16, p.k, p.s0, p.s7, hx, p.s10, p.s13, p.way, p.len, p.parts⟩
theorem HdOk.u10 {h : S31} (p : HdOk h) (x : ByteArray) (hx : x.size ≤ 60) : HdOk { h with f10 := x } := ⟨p.n1, p.n2, p.n3, p.n4, p.n5, p.n11, p.n12, p.n16, p.k, p.s0, p.s7, p.s9, hx, p.s13, p.way, p.len, p.parts⟩
theorem HdOk.u11 {h : S31} (p : HdOk h) (x : Int) (hx : I64 x) : HdOk { h with f11 := x } := ⟨p.n1, p.n2, p.n3, p.n4, p.n5, hx, p.n12, p.n16, p.k, p.s0, p.s7, p.s9, p.s10, p.s13, p.way, p.len, p.parts⟩
theorem HdOk.u12 {h : S31} (p : HdOk h) (x : Int) (hx : I64 x) : HdOk { h with f12 := x } := ⟨p.n1, p.n2, p.n3, p.n4, p.n5, p.n11, hx, p.n16, p.k, p.s0, p.s7, p.s9, p.s10, p.s13, p.way, p.len, p.parts⟩
theorem HdOk.u13 {h : S31} (p : HdOk h) (x : ByteArray) (hx : x.size ≤ 60) : HdOk { h with f13 := x } := ⟨p.n1, p.n2, p.n3, p.n4, p.n5, p.n11, p.n12, p.n16, p.k, p.s0, p.s7, p.s9, p.s10, hx, p.way, p.len, p.parts⟩
theorem HdOk.u16 {h : S31} (p : HdOk h) (x : Int) (hx : I64 x) : HdOk { h with f16 := x } := ⟨p.n1, p.n2, p.n3, p.n4, p.n5, p.n11, p.n12, hx, p.k, p.s0, p.s7, p.s9, p.s10, p.s13, p.way, p.len, p.parts⟩
theorem HdOk.u15 {h : S31} (p : HdOk h) (x : Bool) : HdOk { h with f15 := x } := ⟨p.n1, p.n2, p.n3, p.n4, p.n5, p.n11, p.n12, p.n16, p.k, p.s0, p.s7, p.s9, p.s10, p.s13, p.way, p.len, p.parts⟩
def headH (x0 x1 x2 x3 x4 x5 kv x7 : Int) (n8 : Nat) : S31 := ⟨nameV x0, numV x1, numV x2, numV x3, numV x4, numV x5, kv, nameV x7, n8, ⟨#[]⟩, ⟨#[]⟩, 0, 0, ⟨#[]⟩, [], false, 0⟩
theorem I64_0 : I64 0 := by unfold I64; decide
theorem numV_I (x : Int) (h : 0 ≤ x ∧ x < 256) : I64 (numV x) := by have := (numV_f x h).2; unfold I64; omega
theorem headH_ok {x0 x1 x2 x3 x4 x5 kv x7 : Int} {n8 : Nat} (h1 : 0 ≤ x1 ∧ x1 < 256) (h2 : 0 ≤ x2 ∧ x2 < 256) (h3 : 0 ≤ x3 ∧ x3 < 256) (h4 : 0 ≤ x4 ∧ x4 < 256) (h5 : 0 ≤ x5 ∧ x5 < 256) (hk : 0 ≤ kv ∧ kv < 256) (h8 : (n8 : Int) < 3) : HdOk (headH x0 x1 x2 x3 x4 x5 kv x7 n8) :=
 ⟨numV_I _ h1, numV_I _ h2, numV_I _ h3, numV_I _ h4, numV_I _ h5, I64_0, I64_0, I64_0, hk, (nameV_f _).2, (nameV_f _).2, Nat.zero_le 60, Nat.zero_le 60, Nat.zero_le 60, ⟨by show (0 : Int) ≤ n8; omega, by show (n8 : Int) ≤ 2; omega⟩, Nat.zero_le 4, fun x hx => by cases hx⟩
theorem HW.app {w w1 W w2 : World} {g : Nat} {h : S31} {v v1 : Value} {P : List S64} (p : HW w w1 g h v W) (hg : w1.heap.size ≤ g) (hr : Kd.R k64 64 w2 w.heap.size (fun k => g < k) v1 P) (hgr : W.grownBy w2 v.ownBlock) :
  w2.heap[g]? = some (.cells (cells25 h v) 31 (0, 0)) ∧ HW w w1 g { h with f14 := P } v1 (w2.setCell ⟨g, 14, none⟩ v1) := by
 have hb : w2.heap[g]? = some (.cells (cells25 h v) 31 (0, 0)) := blk_grown p.bk hgr (fun e => Nat.lt_irrefl g (p.r.1 g e.symm))
 have hB : Below w1.heap.size w1 w2 := pw_below_grown p.b _ p.b.size hgr (fun k hk => by have := p.r.1 k hk; omega)
 exact ⟨hb, ⟨blk_set hb 14 v1, Kd.R_grown hr (grown_setCell0 w2 g 14 v1) (fun k hk e => by injection e with e; omega), pw_below_grown hB (some g) hB.size (grown_setCell0 w2 g 14 v1) (fun k hk => by injection hk with hk; omega)⟩⟩
theorem HdOk.u14 {h : S31} (p : HdOk h) (x : S64) (hl : h.f14.length < 4) (hx : I64 x.f0 ∧ I64 x.f1) : HdOk { h with f14 := h.f14 ++ [x] } :=
 ⟨p.n1, p.n2, p.n3, p.n4, p.n5, p.n11, p.n12, p.n16, p.k, p.s0, p.s7, p.s9, p.s10, p.s13, p.way, by show (h.f14 ++ [x]).length ≤ 4; rw [List.length_append]; exact hl, fun y hy => by
  rcases List.mem_append.1 hy with hy | hy
  ·exact p.parts y hy
  ·rw [List.mem_singleton.1 hy]; exact hx⟩
theorem tmod_I (x m : Int) (h : I64 x) (hm : 0 < m) : I64 (Int.tmod x m) := by
 have h1 : (Int.tmod x m).natAbs = x.natAbs % m.natAbs := Int.natAbs_tmod x m
 have h2 := Nat.mod_le x.natAbs m.natAbs
 unfold I64 at h ⊢
 by_cases h0 : 0 ≤ x
 ·have := Int.tmod_nonneg m h0
  omega
 ·have h3 : Int.tmod x m = -(Int.tmod (-x) m) := by rw [Int.neg_tmod]; omega
  have h4 := Int.tmod_nonneg m (show 0 ≤ -x by omega)
  omega
theorem part_row (W : World) (b : Nat) (x : S64) (hb : W.heap[b]? = some (.cells #[.int .i64 x.f0, .int .i64 x.f1] 64 (0, 0))) :
  ReadsRow (fun (y : S64) cs => cs = [.int .i64 y.f0, .int .i64 y.f1]) 2 W (some ⟨b, 0, none⟩) 1 [x] := by
 refine ⟨rfl, by decide, fun _ => ⟨⟨b, 0, none⟩, rfl, fun j p hj => ?_⟩⟩
 match j with
 | 0 =>
  obtain rfl : x = p := by simpa using hj
  refine ⟨_, rfl, rfl, fun i u hu => ?_⟩
  have e : (Addr.add ⟨b, 0, none⟩ (0 * 2 + i)) = ⟨b, i, none⟩ := by
   simp [Addr.add]
   try (intro h; omega)
  rw [e]
  refine (blk_cell hb i).trans ?_
  rw [← hu]
  simp
 | j + 1 => simp at hj
set_option maxRecDepth 100000 in
set_option maxHeartbeats 8000000 in
theorem Header_calls (A0 : Option Addr) (c0 : Nat) (l0 : List Int) (w : World) (hr0 : Kd.C (Kd.int .u8) w A0 l0.length l0) (hc0 : l0.length ≤ c0) (hb : Bytes l0) :
  Calls Tryz.prog 20 #[.slice A0 l0.length c0] w fun e w' => ∃ (h : S31) (v14 : Value) (cs : Array Value), Aside0 (HdOk h) ∧ Aside0 (Hdr h v14 cs) ∧ e = .returned (.agg cs) ∧ Aside0 (Kd.R k64 64 w' w.heap.size (fun _ => True) v14 h.f14) ∧ Below w.heap.size w w' := by
 have HR0 := Aside0.mk hr0
 have HBy := Aside0.mk hb
 have HGC := Aside0.mk (fun (W : World) (hbw : Below w.heap.size w W) (i : Int) (hi : 0 ≤ i) => mudlarklaw08_g.calls A0 c0 l0 i _ W (Kd.C_below hr0 hbw) hc0 (gV_f l0 i hi))
 have HNC := Aside0.mk (fun (W : World) (x : Int) => mudlarklaw08_name.calls x _ W (nameV_f x).1)
 have HMC := Aside0.mk (fun (W : World) (x : Int) (hx : 0 ≤ x ∧ x < 256) => mudlarklaw08_number.calls x _ W (numV_f x hx).1)
 clear hr0 hb hc0
 go_enter Tryz.func20, Tryz.ntmps20
 go_upto_region 2 with (fail)
 have hr0 := row2_alloc w zeroH 31
 have hb0 := below_alloc (Below.refl w.heap.size w) (.cells zeroH 31)
 change Code.wp _ _ _ _ ((w.alloc (.cells zeroH 31)).alloc (.cells kindsA 5))
 have hk1 := row2_alloc (w.alloc (.cells zeroH 31)) kindsA 5
 have hs1 : (w.alloc (.cells zeroH 31)).heap.size = w.heap.size + 1 := by simp [go_sem]
 rw [hs1] at hk1
 have hr1 := blk_below hr0 (below_alloc (Below.refl _ (w.alloc (.cells zeroH 31))) (.cells kindsA 5))
 have hb1 := below_alloc hb0 (.cells kindsA 5)
 generalize (w.alloc (.cells zeroH 31)).alloc (.cells kindsA 5) = w1 at hk1 hr1 hb1 ⊢
 have HR1 := Aside0.mk hr1
 have HG0 := Aside0.mk (fun W hb => HGC.out W hb 0 (by decide))
 have HX0 := Aside0.mk (gV_byte l0 HBy.out 0 (by decide))
 have HG1 := Aside0.mk (fun W hb => HGC.out W hb 1 (by decide))
 have HX1 := Aside0.mk (gV_byte l0 HBy.out 1 (by decide))
 have HG2 := Aside0.mk (fun W hb => HGC.out W hb 2 (by decide))
 have HX2 := Aside0.mk (gV_byte l0 HBy.out 2 (by decide))
 have HG3 := Aside0.mk (fun W hb => HGC.out W hb 3 (by decide))
 have HX3 := Aside0.mk (gV_byte l0 HBy.out 3 (by decide))
 have HG4 := Aside0.mk (fun W hb => HGC.out W hb 4 (by decide))
 have HX4 := Aside0.mk (gV_byte l0 HBy.out 4 (by decide))
 have HG5 := Aside0.mk (fun W hb => HGC.out W hb 5 (by decide))
 have HX5 := Aside0.mk (gV_byte l0 HBy.out 5 (by decide))
 have HG6 := Aside0.mk (fun W hb => HGC.out W hb 6 (by decide))
 have HX6 := Aside0.mk (gV_byte l0 HBy.out 6 (by decide))
 have HG7 := Aside0.mk (fun W hb => HGC.out W hb 7 (by decide))
 have HX7 := Aside0.mk (gV_byte l0 HBy.out 7 (by decide))
 have HG8 := Aside0.mk (fun W hb => HGC.out W hb 8 (by decide))
 have HX8 := Aside0.mk (gV_byte l0 HBy.out 8 (by decide))
 have HM1 := Aside0.mk (fun W => HMC.out W (gV l0 1) HX1.out)
 have HM2 := Aside0.mk (fun W => HMC.out W (gV l0 2) HX2.out)
 have HM3 := Aside0.mk (fun W => HMC.out W (gV l0 3) HX3.out)
 have HM4 := Aside0.mk (fun W => HMC.out W (gV l0 4) HX4.out)
 have HM5 := Aside0.mk (fun W => HMC.out W (gV l0 5) HX5.out)
 obtain ⟨x0, hx0⟩ : ∃ x, x = gV l0 0 := ⟨_, rfl⟩
 rw [← hx0] at HG0 HX0
 obtain ⟨x1, hx1⟩ : ∃ x, x = gV l0 1 := ⟨_, rfl⟩
 rw [← hx1] at HG1 HX1 HM1
 obtain ⟨x2, hx2⟩ : ∃ x, x = gV l0 2 := ⟨_, rfl⟩
 rw [← hx2] at HG2 HX2 HM2
 obtain ⟨x3, hx3⟩ : ∃ x, x = gV l0 3 := ⟨_, rfl⟩
 rw [← hx3] at HG3 HX3 HM3
 obtain ⟨x4, hx4⟩ : ∃ x, x = gV l0 4 := ⟨_, rfl⟩
 rw [← hx4] at HG4 HX4 HM4
 obtain ⟨x5, hx5⟩ : ∃ x, x = gV l0 5 := ⟨_, rfl⟩
 rw [← hx5] at HG5 HX5 HM5
 obtain ⟨x6, hx6⟩ : ∃ x, x = gV l0 6 := ⟨_, rfl⟩
 rw [← hx6] at HG6 HX6
 obtain ⟨x7, hx7⟩ : ∃ x, x = gV l0 7 := ⟨_, rfl⟩
 rw [← hx7] at HG7 HX7
 obtain ⟨x8, hx8⟩ : ∃ x, x = gV l0 8 := ⟨_, rfl⟩
 rw [← hx8] at HG8 HX8
 clear hx0 hx1 hx2 hx3 hx4 hx5 hx6 hx7 hx8
 obtain ⟨n6, hn6, hl6⟩ := tmod_nat x6 HX6.out.1 13 (by decide)
 obtain ⟨n8, hn8, hl8⟩ := tmod_nat x8 HX8.out.1 3 (by decide)
 have hki := kinds_at n6 (by omega)
 obtain ⟨kv, hkv⟩ : ∃ k, k = kindsL.getD n6 0 := ⟨_, rfl⟩
 rw [← hkv] at hki
 have HKV := Aside0.mk hki.2
 have HN8 := Aside0.mk hl8
 have p6 : (0 ≤ (n6 : Int)) = True := eq_true (by omega)
 have q6 : ((n6 : Int) < 14) = True := eq_true (by omega)
 have q6n : (n6 < 14) = True := eq_true (by omega)
 have hz8 : IntKind.i64.wrap (n8 : Int) = (n8 : Int) := by rw [i64_w]; exact wrap64_id _ (by omega) (by omega)
 have HBW := Aside0.mk hb1
 have HK1 := Aside0.mk (show w1.heap[w.heap.size + 1]? = some (.cells kindsA 5 (0, 0)) from hk1)
 have HKI := Aside0.mk hki.1
 replace HG0 := Aside0.mk (fun W (hb : Below w1.heap.size w1 W) => HG0.out W (below_step HBW.out hb))
 replace HG1 := Aside0.mk (fun W (hb : Below w1.heap.size w1 W) => HG1.out W (below_step HBW.out hb))
 replace HG2 := Aside0.mk (fun W (hb : Below w1.heap.size w1 W) => HG2.out W (below_step HBW.out hb))
 replace HG3 := Aside0.mk (fun W (hb : Below w1.heap.size w1 W) => HG3.out W (below_step HBW.out hb))
 replace HG4 := Aside0.mk (fun W (hb : Below w1.heap.size w1 W) => HG4.out W (below_step HBW.out hb))
 replace HG5 := Aside0.mk (fun W (hb : Below w1.heap.size w1 W) => HG5.out W (below_step HBW.out hb))
 replace HG6 := Aside0.mk (fun W (hb : Below w1.heap.size w1 W) => HG6.out W (below_step HBW.out hb))
 replace HG7 := Aside0.mk (fun W (hb : Below w1.heap.size w1 W) => HG7.out W (below_step HBW.out hb))
 replace HG8 := Aside0.mk (fun W (hb : Below w1.heap.size w1 W) => HG8.out W (below_step HBW.out hb))
 have HGA := Aside0.mk (fun W (hb : Below w1.heap.size w1 W) i (hi : (0 : Int) ≤ i) => HGC.out W (below_step HBW.out hb) i hi)
 clear hr0 hb0 hs1 hk1 hr1 hb1 hki hkv hl6 hl8 HGC
 go_cut [4] from 1 to 0 (fun v4 wx => ∃ (g4 : Nat), v4 = .pointer (some ⟨g4, 0, none⟩) ∧ Aside0 (w1.heap.size ≤ g4) ∧ HRel w w1 g4 0 wx)
 case first =>
  refine wp_region_float 32 4 (fun g => .pointer (some ⟨g, 0, none⟩)) (by kernel_rfl) (by kernel_rfl) (by kernel_rfl) rfl rfl rfl (t := 31) (zs := zeroH) ?_
  apply Exists.intro
  refine ⟨?_, fun a w _ => by kernel_rfl, ?_⟩
  ·intro W hW
   have hc : ∀ p : Reach W, p.w.cell? ⟨w.heap.size + 1, n6, none⟩ = some (.int .u8 kv) := fun p => pw_cell_below (below_step hW p.below) ((blk_cell HK1.out n6).trans HKI.out)
   simp only [List.take_succ_cons, List.take_zero]
   repeat (go_big_quiet_step ((rename_i p; apply Calls.reach_of; first
    | (go_at_call 45; (with_reducible refine (HG0.out _ (below_step hW p.below)).mono ?_); rintro e w7 ⟨rfl, hd⟩; exact ⟨rfl, drawn_below hd⟩)
    | (go_at_call 45; (with_reducible refine (HG1.out _ (below_step hW p.below)).mono ?_); rintro e w7 ⟨rfl, hd⟩; exact ⟨rfl, drawn_below hd⟩)
    | (go_at_call 45; (with_reducible refine (HG2.out _ (below_step hW p.below)).mono ?_); rintro e w7 ⟨rfl, hd⟩; exact ⟨rfl, drawn_below hd⟩)
    | (go_at_call 45; (with_reducible refine (HG3.out _ (below_step hW p.below)).mono ?_); rintro e w7 ⟨rfl, hd⟩; exact ⟨rfl, drawn_below hd⟩)
    | (go_at_call 45; (with_reducible refine (HG4.out _ (below_step hW p.below)).mono ?_); rintro e w7 ⟨rfl, hd⟩; exact ⟨rfl, drawn_below hd⟩)
    | (go_at_call 45; (with_reducible refine (HG5.out _ (below_step hW p.below)).mono ?_); rintro e w7 ⟨rfl, hd⟩; exact ⟨rfl, drawn_below hd⟩)
    | (go_at_call 45; (with_reducible refine (HG6.out _ (below_step hW p.below)).mono ?_); rintro e w7 ⟨rfl, hd⟩; exact ⟨rfl, drawn_below hd⟩)
    | (go_at_call 45; (with_reducible refine (HG7.out _ (below_step hW p.below)).mono ?_); rintro e w7 ⟨rfl, hd⟩; exact ⟨rfl, drawn_below hd⟩)
    | (go_at_call 45; (with_reducible refine (HG8.out _ (below_step hW p.below)).mono ?_); rintro e w7 ⟨rfl, hd⟩; exact ⟨rfl, drawn_below hd⟩)
    | (go_at_call 44; (with_reducible refine (HNC.out _ _).mono ?_); rintro e w7 ⟨rfl, hd⟩; exact ⟨rfl, hd⟩)
    | (go_at_call 46; (with_reducible refine (HM1.out _).mono ?_); rintro e w7 ⟨rfl, hd⟩; exact ⟨rfl, hd⟩)
    | (go_at_call 46; (with_reducible refine (HM2.out _).mono ?_); rintro e w7 ⟨rfl, hd⟩; exact ⟨rfl, hd⟩)
    | (go_at_call 46; (with_reducible refine (HM3.out _).mono ?_); rintro e w7 ⟨rfl, hd⟩; exact ⟨rfl, hd⟩)
    | (go_at_call 46; (with_reducible refine (HM4.out _).mono ?_); rintro e w7 ⟨rfl, hd⟩; exact ⟨rfl, hd⟩)
    | (go_at_call 46; (with_reducible refine (HM5.out _).mono ?_); rintro e w7 ⟨rfl, hd⟩; exact ⟨rfl, hd⟩))))
   exact wpQuiet_nil rfl
  ·intro W g hW hg hbk
   simp only [List.drop_succ_cons, List.drop_zero]
   refine wpList_store_rowTo rfl 31 _ _ rfl rfl g (cells25 (headH x0 x1 x2 x3 x4 x5 kv x7 n8) (.slice none 0 0)) rfl rfl 31 zeroH hbk (by kernel_rfl) rfl (Hdr.one ⟨rfl⟩ rfl) ?_
   have hs := setRow_same (cells := cells25 (headH x0 x1 x2 x3 x4 x5 kv x7 n8) (.slice none 0 0)) hbk
   have hb5 : Below w1.heap.size w1 (W.setRow g (cells25 (headH x0 x1 x2 x3 x4 x5 kv x7 n8) (.slice none 0 0))) := pw_below_grown hW (some g) hW.size (grown_setRow W g _) (fun k hk => by injection hk with hk; omega)
   go_wp2
   go_meet
   exact ⟨g, rfl, ⟨hg⟩, _, _, ⟨headH_ok HX1.out HX2.out HX3.out HX4.out HX5.out HKV.out HN8.out⟩, ⟨Nat.le_refl _⟩, ⟨hs, Kd.R_nil _ _ _ _ _, hb5⟩⟩
 case rest =>
  obtain ⟨g, rfl, HGG, h0, v0, HOK0, HL0, H0⟩ := hcut
  clear HM1 HM2 HM3 HM4 HM5 HG0 HG1 HG2 HG3 HG4 HG5 HG7 HX0 HX1 HX2 HX3 HX4 HX5 HX7
  go_upto_if 41 with (first | (go_at_call 45; (with_reducible refine (HG6.out _ H0.out.b).mono ?_); rintro e w7 ⟨rfl, hd⟩; have H7 := Aside0.mk (H0.out.below (drawn_below hd)); clear hd))
  clear H0
  go_cut [41] from 1 to 0 (fun v41 wx => HRel w w1 g 0 wx)
  case first =>
   by_cases q : 250 < x6
   ·have c6 := H7.out.c6
    have y6 := blk_frozen H7.out.bk 6
    go_wp2
    go_meet
    exact ⟨_, _, ⟨HOK0.out.u6 122 (by decide)⟩, HL0, ⟨H7.out.set HGG.out 6 (.int .u8 122) rfl rfl⟩⟩
   ·go_wp2
    go_meet
    exact ⟨_, _, HOK0, HL0, H7⟩
  case rest =>
  obtain ⟨h1, v1, HOK1, HL1, H1⟩ := hcut
  clear HOK0 HL0 H7
  have c6 := H1.out.c6
  go_upto_region 5 with (fail)
  go_cut [45] from 1 to 0 (fun v45 wx => ∃ b : Bool, v45 = .bool b ∧ Aside0 (HW w w1 g h1 v1 wx))
  case first =>
   go_wp2
   go_meet
   exact ⟨_, rfl, H1⟩
  case rest =>
  obtain ⟨b45, rfl, H1⟩ := hcut
  clear c6
  go_upto_if 45 with (fail)
  go_cut [45] from 1 to 0 (fun v45 wx => HRel w w1 g 4 wx)
  case first =>
   cases b45 with
   | true =>
    have c8 := H1.out.c8
    have y8 := blk_frozen H1.out.bk 8
    go_upto_region 7 with (fail)
    generalize hW : World.setCell _ _ _ = w9
    obtain ⟨ha, va, HOa, HLa, Ha⟩ : HRel w w1 g 0 w9 := by rw [← hW]; exact ⟨_, _, ⟨HOK1.out.u8 2 (by decide)⟩, HL1, ⟨H1.out.set HGG.out 8 (.int .i64 2) rfl rfl⟩⟩
    clear hW c8 y8 H1 HOK1 HL1
    have HX9 := Aside0.mk (gV_byte l0 HBy.out 9 (by decide))
    have HG9 := Aside0.mk (fun W hb => HGA.out W hb 9 (by decide))
    obtain ⟨x9, hx9⟩ : ∃ x, x = gV l0 9 := ⟨_, rfl⟩
    rw [← hx9] at HG9 HX9
    clear hx9
    obtain ⟨n9, hn9, hl9⟩ := tmod_nat x9 HX9.out.1 5 (by decide)
    have hz9 : IntKind.i64.wrap (n9 : Int) = (n9 : Int) := by rw [i64_w]; exact wrap64_id _ (by omega) (by omega)
    have HN9 := Aside0.mk hl9
    go_wp2
    go_loopg [5] n9 (fun kq v5 wx => ∃ (i : Nat) (h : S31) (v : Value), v5 = .int .i64 (i : Int) ∧ Aside0 (i + kq = n9) ∧ Aside0 (HdOk h) ∧ Aside0 (h.f14.length ≤ i) ∧ Aside0 (HW w w1 g h v wx))
    case atStart => exact ⟨0, _, _, rfl, ⟨Nat.zero_add _⟩, HOa, HLa, Ha⟩
    case round =>
     obtain ⟨i, hh, vv, rfl, HI, HOi, HLi, Hi⟩ := hrel
     by_cases hlt : i < n9
     ·have q0 : ((i : Int) < (n9 : Int)) = True := eq_true (by omega)
      have q2 : decide ((i : Int) < (n9 : Int)) = true := decide_eq_true (by omega)
      have hmx : (i : Int) ≤ 3 := by have := HN9.out; omega
      have hm0 : 0 ≤ (i : Int) := by omega
      go_upto_region 10 with (first | (go_at_call 45; (with_reducible refine (HG9.out _ Hi.out.b).mono ?_); rintro e w7 ⟨rfl, hd⟩; have H7 := Aside0.mk (Hi.out.below (drawn_below hd)); clear hd))
      have HXi := Aside0.mk (gV_byte l0 HBy.out (10 + (i : Int)) (by omega))
      have hNi := (numV_f _ HXi.out).2
      refine wp_region_float 11 66 (fun g => .slice (some ⟨g, 0, none⟩) 1 1) (by kernel_rfl) (by kernel_rfl) (by kernel_rfl) rfl rfl rfl (t := 64) (zs := #[.int .i64 (512 * (i : Int)), .int .i64 (1 + numV (gV l0 (10 + (i : Int))))]) ?_
      apply Exists.intro
      refine ⟨?_, ?_, ?_⟩
      ·intro W hW
       have hc : ∀ p : Reach W, p.w.cell? ⟨g, 14, none⟩ = some vv := fun p => (H7.out.below (below_step hW p.below)).c14
       simp only [List.take_succ_cons, List.take_zero]
       repeat (go_big_quiet_step ((rename_i p; apply Calls.reach_of; first
        | (go_at_call 45; (with_reducible refine (HGA.out _ (H7.out.below (below_step hW p.below)).b (10 + (i : Int)) (by omega)).mono ?_); rintro e w7 ⟨rfl, hd⟩; exact ⟨rfl, drawn_below hd⟩)
        | (go_at_call 46; (with_reducible refine (HMC.out _ _ HXi.out).mono ?_); rintro e w7 ⟨rfl, hd⟩; exact ⟨rfl, hd⟩))))
       exact wpQuiet_nil rfl
      ·intro a W h
       have h65 := h 65 (by decide)
       have e65 : a.tmps[65]?.getD undef = .agg #[.int .i64 (512 * (i : Int)), .int .i64 (1 + numV (gV l0 (10 + (i : Int))))] := by rw [h65]; rfl
       simp only [List.getElem_toArray, List.getElem_cons_succ, List.getElem_cons_zero]
       clear h h65
       simp [execOp, go_sem, e65]
       try rfl
      ·intro W g9 hW hg9 hbk
       simp only [List.drop_succ_cons, List.drop_zero]
       have H8 := Aside0.mk (H7.out.below hW)
       refine Kd.R_append_rows k64 (w0 := w) w.heap.size rfl (.tmp 56) (.tmp 66) 29 64 (.agg #[(.int .i64 0), (.int .i64 0)]) 16 rfl Tryz.underlying29 info64 rfl (by decide) (by omega) vv hh.f14 [(⟨512 * (i : Int), 1 + numV (gV l0 (10 + (i : Int)))⟩ : S64)] (some ⟨g9, 0, none⟩) 1 1 (fun k => g < k) (fun _ => False) rfl rfl H8.out.r (part_row W g9 _ hbk) (fun x cs hx => by rw [hx]; exact k64_mkM _ _ _ x) (fun _ hk => hk.elim) (fun k hk => by have := blk_lt H8.out.bk; omega) (below_step HBW.out H8.out.b) (below_step HBW.out H8.out.b).size (by have := HLi.out; omega) ?_
       intro v1 w2 hr hbw hgr _
       obtain ⟨hbk2, hw2⟩ := H8.out.app HGG.out hr hgr
       have c14 : w2.cell? ⟨g, 14, none⟩ = some vv := (blk_cell hbk2 14).trans rfl
       have y14 := blk_frozen hbk2 14
       have hv1 := (Kd.R_val hr).2
       have HW2 := Aside0.mk hw2
       have HO2 := Aside0.mk (HOi.out.u14 (⟨512 * (i : Int), 1 + numV (gV l0 (10 + (i : Int)))⟩ : S64) (by have := HLi.out; omega) (by unfold I64; exact ⟨by show _ ≤ 512 * (i : Int) ∧ 512 * (i : Int) ≤ _; omega, by show _ ≤ 1 + numV (gV l0 (10 + (i : Int))) ∧ 1 + numV (gV l0 (10 + (i : Int))) ≤ _; omega⟩))
       have HL2 : Aside0 ((hh.f14 ++ [(⟨512 * (i : Int), 1 + numV (gV l0 (10 + (i : Int)))⟩ : S64)]).length ≤ i + 1) := ⟨by rw [List.length_append]; have := HLi.out; show hh.f14.length + 1 ≤ i + 1; omega⟩
       obtain ⟨A1, c1, hv⟩ := Kd.R_slice hr
       generalize List.length _ = m1 at hv
       subst hv
       clear hbk hbk2 hw2 hr hbw hgr hW hg9
       go_wp2
       have hi1 := HI.out
       obtain ⟨k1, rfl⟩ : ∃ k1, gk = k1 + 1 := ⟨gk - 1, by omega⟩
       go_roundg k1
       case measure => omega
       case rel => exact ⟨i + 1, _, _, by go_num, ⟨by omega⟩, HO2, HL2, HW2⟩
     ·have q0 : ((i : Int) < (n9 : Int)) = False := eq_false (by omega)
      have q2 : decide ((i : Int) < (n9 : Int)) = false := decide_eq_false (by omega)
      have hi4 := HN9.out
      go_upto_region 11 with (first | (go_at_call 45; (with_reducible refine (HG9.out _ Hi.out.b).mono ?_); rintro e w7 ⟨rfl, hd⟩; have H7 := Aside0.mk (Hi.out.below (drawn_below hd)); clear hd))
      go_upto_region 12 with (first | (go_at_call 45; (with_reducible refine (HG9.out _ H7.out.b).mono ?_); rintro e w7 ⟨rfl, hd⟩; have H8 := Aside0.mk (H7.out.below (drawn_below hd)); clear hd; have c15 := H8.out.c15; have y15 := blk_frozen H8.out.bk 15))
      generalize hW : World.setCell _ _ _ = w9
      obtain ⟨hb, vb, HOb, HLb, Hb⟩ : HRel w w1 g 4 w9 := by rw [← hW]; exact ⟨_, _, ⟨HOi.out.u15 (decide (128 < x9))⟩, ⟨by have := HLi.out; have := HI.out; show hh.f14.length ≤ 4; omega⟩, ⟨H8.out.set HGG.out 15 _ rfl rfl⟩⟩
      clear hW c15 y15 H7 H8 Hi HOi HLi
      go_wp2_with (first | (go_at_call 45; (with_reducible refine (HGA.out _ Hb.out.b 14 (by decide)).mono ?_); rintro e w7 ⟨rfl, hd⟩; have H7 := Aside0.mk (Hb.out.below (drawn_below hd)); clear hd) | (go_at_call 46; (with_reducible refine (HMC.out _ _ (gV_byte l0 HBy.out 14 (by decide))).mono ?_); rintro e w7 ⟨rfl, hd⟩; have H8 := Aside0.mk (H7.out.below hd); clear hd; have c16 := H8.out.c16; have y16 := blk_frozen H8.out.bk 16))
      go_meet
      exact ⟨_, _, ⟨HOb.out.u16 _ (numV_I _ (gV_byte l0 HBy.out 14 (by decide)))⟩, HLb, ⟨H8.out.set HGG.out 16 _ rfl rfl⟩⟩
   | false =>
    go_wp2
    go_meet
    exact ⟨_, _, HOK1, ⟨Nat.le_trans HL1.out (Nat.zero_le _)⟩, H1⟩
  case rest =>
  obtain ⟨h2, v2, HOK2, HL2, H2⟩ := hcut
  clear HOK1 HL1 H1
  have c8 := H2.out.c8
  go_upto_region 13 with (fail)
  go_cut [84] from 1 to 0 (fun v84 wx => ∃ b : Bool, v84 = .bool b ∧ Aside0 (HW w w1 g h2 v2 wx))
  case first =>
   go_wp2_with (first | (go_at_call 45; (with_reducible refine (HG8.out _ H2.out.b).mono ?_); rintro e w7 ⟨rfl, hd⟩; have H3 := Aside0.mk (H2.out.below (drawn_below hd)); clear hd))
   ·go_meet
    exact ⟨_, rfl, H3⟩
   ·go_meet
    exact ⟨_, rfl, H2⟩
  case rest =>
  obtain ⟨b84, rfl, H3⟩ := hcut
  clear H2 c8
  go_upto_if 84 with (fail)
  go_cut [84] from 1 to 0 (fun v84 wx => HRel w w1 g 4 wx)
  case first =>
   cases b84 with
   | false =>
    go_wp2
    go_meet
    exact ⟨_, _, HOK2, HL2, H3⟩
   | true =>
    go_upto_region 15 with (first | (go_at_call 45; (with_reducible refine (HGA.out _ H3.out.b 15 (by decide)).mono ?_); rintro e w7 ⟨rfl, hd⟩; have H4 := Aside0.mk (H3.out.below (drawn_below hd)); clear hd) | (go_at_call 44; (with_reducible refine (HNC.out _ _).mono ?_); rintro e w7 ⟨rfl, hd⟩; have H5 := Aside0.mk (H4.out.below hd); clear hd; have c9 := H5.out.c9; have y9 := blk_frozen H5.out.bk 9))
    generalize hW : World.setCell _ _ _ = w9
    obtain ⟨ha, va, HOa, HLa, Ha⟩ : HRel w w1 g 4 w9 := by rw [← hW]; exact ⟨_, _, ⟨HOK2.out.u9 _ (nameV_f _).2⟩, HL2, ⟨H5.out.set HGG.out 9 _ rfl rfl⟩⟩
    clear H3 H4 H5 c9 y9 hW HOK2 HL2
    go_upto_region 16 with (first | (go_at_call 45; (with_reducible refine (HGA.out _ Ha.out.b 16 (by decide)).mono ?_); rintro e w7 ⟨rfl, hd⟩; have H7 := Aside0.mk (Ha.out.below (drawn_below hd)); clear hd) | (go_at_call 44; (with_reducible refine (HNC.out _ _).mono ?_); rintro e w7 ⟨rfl, hd⟩; have H8 := Aside0.mk (H7.out.below hd); clear hd; have c10 := H8.out.c10; have y10 := blk_frozen H8.out.bk 10))
    generalize hW : World.setCell _ _ _ = w9
    obtain ⟨hb, vb, HOb, HLb, Hb⟩ : HRel w w1 g 4 w9 := by rw [← hW]; exact ⟨_, _, ⟨HOa.out.u10 _ (nameV_f _).2⟩, HLa, ⟨H8.out.set HGG.out 10 _ rfl rfl⟩⟩
    clear H7 H8 c10 y10 hW HOa HLa Ha
    go_upto_region 17 with (first | (go_at_call 45; (with_reducible refine (HGA.out _ Hb.out.b 17 (by decide)).mono ?_); rintro e w7 ⟨rfl, hd⟩; have H7 := Aside0.mk (Hb.out.below (drawn_below hd)); clear hd) | (go_at_call 46; (with_reducible refine (HMC.out _ _ (gV_byte l0 HBy.out 17 (by decide))).mono ?_); rintro e w7 ⟨rfl, hd⟩; have H8 := Aside0.mk (H7.out.below hd); clear hd; have c11 := H8.out.c11; have y11 := blk_frozen H8.out.bk 11))
    generalize hW : World.setCell _ _ _ = w9
    obtain ⟨hc, vc, HOc, HLc, Hc⟩ : HRel w w1 g 4 w9 := by rw [← hW]; exact ⟨_, _, ⟨HOb.out.u11 _ (tmod_I _ _ (numV_I _ (gV_byte l0 HBy.out 17 (by decide))) (by decide))⟩, HLb, ⟨H8.out.set HGG.out 11 _ rfl rfl⟩⟩
    clear H7 H8 c11 y11 hW HOb HLb Hb
    have HX18 := gV_byte l0 HBy.out 18 (by decide)
    go_wp2_with (first | (go_at_call 45; (with_reducible refine (HGA.out _ Hc.out.b 18 (by decide)).mono ?_); rintro e w7 ⟨rfl, hd⟩; have H7 := Aside0.mk (Hc.out.below (drawn_below hd)); clear hd; have c12 := H7.out.c12; have y12 := blk_frozen H7.out.bk 12))
    go_meet
    exact ⟨_, _, ⟨HOc.out.u12 (gV l0 18) (by unfold I64; omega)⟩, HLc, ⟨H7.out.set HGG.out 12 _ rfl rfl⟩⟩
  case rest =>
  obtain ⟨h3, v3, HOK3, HL3, H4⟩ := hcut
  clear H3 HOK2 HL2
  have c8 := H4.out.c8
  go_upto_region 18 with (fail)
  go_cut [109] from 1 to 0 (fun v109 wx => ∃ b : Bool, v109 = .bool b ∧ Aside0 (HW w w1 g h3 v3 wx))
  case first =>
   go_wp2_with (first | (go_at_call 45; (with_reducible refine (HG8.out _ H4.out.b).mono ?_); rintro e w7 ⟨rfl, hd⟩; have H5 := Aside0.mk (H4.out.below (drawn_below hd)); clear hd))
   ·go_meet
    exact ⟨_, rfl, H4⟩
   ·go_meet
    exact ⟨_, rfl, H5⟩
  case rest =>
  obtain ⟨b109, rfl, H5⟩ := hcut
  clear H4 c8
  go_upto_if 109 with (fail)
  go_cut [109] from 1 to 0 (fun v109 wx => HRel w w1 g 4 wx)
  case first =>
   cases b109 with
   | false =>
    go_wp2
    go_meet
    exact ⟨_, _, HOK3, HL3, H5⟩
   | true =>
    go_wp2_with (first | (go_at_call 45; (with_reducible refine (HGA.out _ H5.out.b 19 (by decide)).mono ?_); rintro e w7 ⟨rfl, hd⟩; have H6 := Aside0.mk (H5.out.below (drawn_below hd)); clear hd) | (go_at_call 44; (with_reducible refine (HNC.out _ _).mono ?_); rintro e w7 ⟨rfl, hd⟩; have H7 := Aside0.mk (H6.out.below hd); clear hd; have c13 := H7.out.c13; have y13 := blk_frozen H7.out.bk 13))
    go_meet
    exact ⟨_, _, ⟨HOK3.out.u13 _ (nameV_f _).2⟩, HL3, ⟨H7.out.set HGG.out 13 _ rfl rfl⟩⟩
  case rest =>
  obtain ⟨h4, v4, HOK4, HL4, H6⟩ := hcut
  clear H5 HOK3 HL3
  have hr1 := blk_below HR1.out H6.out.b
  obtain ⟨cs, hcs⟩ : ∃ c, c = cells25 h4 v4 := ⟨_, rfl⟩
  have HD : Hdr h4 v4 cs := ⟨hcs⟩
  have hbk : wc.heap[g]? = some (.cells cs 31 (0, 0)) := by rw [hcs]; exact H6.out.bk
  have hv := (Kd.R_val H6.out.r).2
  have hgw : ¬ w.heap.size = g := by have := blk_lt HR1.out; have := HGG.out; omega
  go_wp2_with (first | (refine wpList_load_row rfl 31 _ rfl g rfl 31 cs (0, 0) _ hbk Tryz.underlying31 rfl (by rw [HD.size]; kernel_rfl) ?_) | (refine wpList_store_rowTo rfl 31 _ _ rfl rfl w.heap.size cs rfl rfl 31 zeroH hr1 (by rw [HD.size]; kernel_rfl) (by rw [HD.size]; rfl) (HD.one hv) ?_))
  have hb1 := HBW.out.size
  have hg1 := HGG.out
  have hl1 := blk_lt HR1.out
  have hR := Kd.R_mono (Kd.R_grown H6.out.r (grown_setRow wc w.heap.size cs) (fun k hk e => by injection e with e; omega)) (ok' := fun _ => True) (fun _ _ => trivial)
  have hBw := pw_below_grown (below_step HBW.out H6.out.b) (some w.heap.size) (below_step HBW.out H6.out.b).size (grown_setRow wc w.heap.size cs) (fun k hk => by injection hk with hk; omega)
  refine bodyPost_ret (results_cell_row rfl _ _ w.heap.size 31 cs (0, 0) _ rfl (setRow_same hr1) Tryz.underlying31 rfl (by rw [HD.size]; kernel_rfl)) rfl ?_
  exact ⟨h4, v4, cs, HOK4, ⟨HD⟩, rfl, ⟨hR⟩, hBw⟩
end Go.Proofs.YtkfcfbggojmfkaaGreatDoor.P
