/- A header in a box of the call's own. mudlarkref08: laying bytes over a block's (lay), and a way's magic. No conditions. mudlarkref08.magic and .texts: what they come to. No conditions. mudlarkref08.fits: what it comes to. No conditions. mudlarkref08.numbers: what it comes to. No conditions. mudlarkref08.Print: what it lays is what head.print lays. Its condition: none beyond the header's kinds. mudlarklaw08.Bent: it hands back a block of 512 bytes. No conditions. -/
import Derived.Test.YtkfcfbggojmfkaaGreatDoorHHeader
import Derived.Test.YtkfcfbggojmfkaaGreatDoorHHeadG
import Derived.Lib.ConvBytes
import Derived.Test.YtkfcfbggojmfkaaGreatDoorHRefN
import Derived.Test.YtkfcfbggojmfkaaGreatDoorHNames
section
namespace Go.Proofs.YtkfcfbggojmfkaaGreatDoor.P
open Go Go.RowKit Go.Proofs.YtkfcfbggojmfkaaGreatDoorW.PrintWords Go.Proofs.YtkfcfbggojmfkaaGreatDoorW.PrintLast Go.Proofs.YtkfcfbggojmfkaaGreatDoorW.PrintMore
set_option linter.unusedVariables false
set_option linter.unusedSimpArgs false

structure HB (w : World) (g : Nat) (h : S31) (v : Value) (W : World) : Prop where
 bk : W.heap[g]? = some (.cells (cells25 h v) 31 (0, 0))
 r : Kd.R k64 64 W w.heap.size (fun k => k < g) v h.f14
 b : Below w.heap.size w W
 lo : w.heap.size ≤ g
theorem HB.below {w W W' : World} {g : Nat} {h : S31} {v : Value} (p : HB w g h v W) (hb : Below W.heap.size W W') : HB w g h v W' :=
 ⟨blk_below p.bk hb, Kd.R_below p.r hb, below_step p.b hb, p.lo⟩
theorem HB.set {w W : World} {g : Nat} {h h' : S31} {v : Value} (p : HB w g h v W) (i : Nat) (u : Value) (hc : (cells25 h v).setIfInBounds i u = cells25 h' v) (h14 : h'.f14 = h.f14) : HB w g h' v (W.setCell ⟨g, i, none⟩ u) :=
 ⟨by rw [← hc]; exact blk_set p.bk i u, by rw [h14]; exact Kd.R_grown p.r (grown_setCell0 W g i u) (fun k hk e => by injection e with e; omega), pw_below_grown p.b (some g) p.b.size (grown_setCell0 W g i u) (fun k hk => by injection hk with hk; have := p.lo; omega), p.lo⟩
theorem HB.box {w W : World} {h : S31} {v : Value} {cs : Array Value} (hd : Hdr h v cs) (hr : Kd.R k64 64 W w.heap.size (fun _ => True) v h.f14) (hb : Below w.heap.size w W) : HB w W.heap.size h v ((W.alloc (.cells zeroH 31)).setRow W.heap.size cs) :=
 have hx := box_hdr W cs
 ⟨by rw [← hd.eq]; exact hx.1, Kd.R_below (Kd.R_mono (Kd.R_bound hr) (fun k hk => hk.2.2.1)) hx.2, below_step hb hx.2, hb.size⟩
theorem HB.c2 {w W : World} {g : Nat} {h : S31} {v : Value} (p : HB w g h v W) : W.cell? ⟨g, 2, none⟩ = some (.int .i64 h.f2) := (blk_cell p.bk 2).trans rfl
theorem HB.c3 {w W : World} {g : Nat} {h : S31} {v : Value} (p : HB w g h v W) : W.cell? ⟨g, 3, none⟩ = some (.int .i64 h.f3) := (blk_cell p.bk 3).trans rfl
theorem HB.c4 {w W : World} {g : Nat} {h : S31} {v : Value} (p : HB w g h v W) : W.cell? ⟨g, 4, none⟩ = some (.int .i64 h.f4) := (blk_cell p.bk 4).trans rfl
theorem HB.c5 {w W : World} {g : Nat} {h : S31} {v : Value} (p : HB w g h v W) : W.cell? ⟨g, 5, none⟩ = some (.int .i64 h.f5) := (blk_cell p.bk 5).trans rfl
theorem HB.c6 {w W : World} {g : Nat} {h : S31} {v : Value} (p : HB w g h v W) : W.cell? ⟨g, 6, none⟩ = some (.int .u8 h.f6) := (blk_cell p.bk 6).trans rfl
theorem HB.c7 {w W : World} {g : Nat} {h : S31} {v : Value} (p : HB w g h v W) : W.cell? ⟨g, 7, none⟩ = some (.string h.f7) := (blk_cell p.bk 7).trans rfl
theorem HB.c8 {w W : World} {g : Nat} {h : S31} {v : Value} (p : HB w g h v W) : W.cell? ⟨g, 8, none⟩ = some (.int .i64 h.f8) := (blk_cell p.bk 8).trans rfl
theorem HB.c9 {w W : World} {g : Nat} {h : S31} {v : Value} (p : HB w g h v W) : W.cell? ⟨g, 9, none⟩ = some (.string h.f9) := (blk_cell p.bk 9).trans rfl
theorem HB.c10 {w W : World} {g : Nat} {h : S31} {v : Value} (p : HB w g h v W) : W.cell? ⟨g, 10, none⟩ = some (.string h.f10) := (blk_cell p.bk 10).trans rfl
theorem HB.c11 {w W : World} {g : Nat} {h : S31} {v : Value} (p : HB w g h v W) : W.cell? ⟨g, 11, none⟩ = some (.int .i64 h.f11) := (blk_cell p.bk 11).trans rfl
theorem HB.c12 {w W : World} {g : Nat} {h : S31} {v : Value} (p : HB w g h v W) : W.cell? ⟨g, 12, none⟩ = some (.int .i64 h.f12) := (blk_cell p.bk 12).trans rfl
theorem HB.c13 {w W : World} {g : Nat} {h : S31} {v : Value} (p : HB w g h v W) : W.cell? ⟨g, 13, none⟩ = some (.string h.f13) := (blk_cell p.bk 13).trans rfl
theorem bytes_of_wf {l : List Int} (h : ∀ n ∈ l, (Lit.int .u8 n).wf = true) : Bytes l := fun x hx => by
 have := h x hx
 simp [Lit.wf, IntKind.min, IntKind.max, IntKind.signed, IntKind.bits] at this
 omega
end Go.Proofs.YtkfcfbggojmfkaaGreatDoor.P
end

section
namespace Go.Proofs.YtkfcfbggojmfkaaGreatDoor.P
open Go Go.RowKit Go.Proofs.YtkfcfbggojmfkaaGreatDoorW.PrintWords Go.Proofs.YtkfcfbggojmfkaaGreatDoorW.PrintLast Go.Proofs.YtkfcfbggojmfkaaGreatDoorW.PrintMore
set_option linter.unusedVariables false
set_option linter.unusedSimpArgs false

theorem splice_more (cur f : List Int) (at_ i : Nat) (hi : i < f.length) (h : at_ + f.length ≤ cur.length) : (splice cur at_ (f.take i)).set (at_ + i) f[i] = splice cur at_ (f.take (i + 1)) := by
 apply List.ext_getElem?
 intro k
 unfold splice
 simp only [List.getElem?_set, List.getElem?_append, List.getElem?_take, List.getElem?_drop, List.length_append, List.length_take, List.length_drop]
 have m1 : min at_ cur.length = at_ := by omega
 have m2 : min i f.length = i := by omega
 have m3 : min (i + 1) f.length = i + 1 := by omega
 simp only [m1, m2, m3]
 by_cases h1 : at_ + i = k
 ·subst h1
  rw [if_pos rfl, if_pos (by omega), if_neg (by omega), if_pos (by omega), if_pos (by omega), Nat.add_sub_cancel_left, List.getElem?_eq_getElem hi]
 ·rw [if_neg h1]
  repeat' split
  all_goals first | rfl | (exfalso; omega) | (congr 1; omega)
structure LaidG (w w' : World) (bb : Nat) (l : List Int) : Prop where
 bk : w'.heap[bb]? = some (.cells (u8c l).toArray 5 (0, 0))
 grown : w.grownBy w' (some bb)
theorem LaidG.below {w0 w w' : World} {bb : Nat} {l : List Int} (h : LaidG w w' bb l) (hb : Below w0.heap.size w0 w) (hg : w0.heap.size ≤ bb) : Below w0.heap.size w0 w' :=
 pw_below_grown hb (some bb) hb.size h.grown (fun k hk => by injection hk with hk; omega)
set_option maxRecDepth 100000 in
set_option maxHeartbeats 4000000 in
theorem ref_layC (bb at_ : Nat) (A : Option Addr) (n c : Nat) (cur f : List Int) (w : World) (hbk : w.heap[bb]? = some (.cells (u8c cur).toArray 5 (0, 0))) (hl : cur.length = 512) (hn : n = f.length) (hf : ∀ W, w.grownBy W (some bb) → Kd.C (Kd.int .u8) W A f.length f) (hfit : at_ + f.length ≤ 512) :
  Calls Tryz.prog 43 #[.slice (some ⟨bb, 0, none⟩) 512 512, .int .i64 (at_ : Int), .slice A n c] w fun e w' => e = .returned (.slice (some ⟨bb, 0, none⟩) 512 512) ∧ LaidG w w' bb (splice cur at_ f) := by
 have HF := Aside0.mk hf
 have HN := Aside0.mk hn
 have HC := Aside0.mk hl
 have HFIT := Aside0.mk hfit
 have HBK := Aside0.mk hbk
 clear hf hbk hl hn hfit
 go_enter Tryz.func43, Tryz.ntmps43
 go_wp2
 go_loopg [7] n (fun kq v7 wx => ∃ i : Nat, v7 = .int .i64 (i : Int) ∧ Aside0 (i + kq = n) ∧ Aside0 (LaidG w wx bb (splice cur at_ (f.take i))))
 case atStart => exact ⟨0, rfl, ⟨Nat.zero_add _⟩, ⟨⟨by rw [List.take_zero, show splice cur at_ [] = cur by unfold splice; simp]; exact HBK.out, ⟨rfl, rfl, rfl, Nat.le_refl _, fun _ _ _ => rfl⟩⟩⟩⟩
 case round =>
  obtain ⟨i, rfl, HI, HL⟩ := hrel
  by_cases hlt : i < n
  ·have q0 : ((i : Int) < (n : Int)) = True := eq_true (by omega)
   have q1 : (i < n) = True := eq_true hlt
   have hif : i < f.length := by have := HN.out; omega
   have hfit := HFIT.out
   have hfl : f.length ≤ 512 := by omega
   have hC := HF.out _ HL.out.grown
   obtain ⟨ad, e5, hx⟩ := Kd.at_int hC (i : Int) (by omega) (by omega)
   subst e5
   rw [Int.toNat_natCast] at hx
   obtain ⟨x, hxx⟩ : ∃ x, x = rd f (i : Int) := ⟨_, rfl⟩
   rw [← hxx] at hx
   have HX := Aside0.mk hxx
   have y1 := blk_frozen HL.out.bk (at_ + i)
   have hlen : (splice cur at_ (f.take i)).length = 512 := by unfold splice; simp; have := HC.out; omega
   have x1 : wr.cell? ⟨bb, at_ + i, none⟩ = some (.int .u8 (rd (splice cur at_ (f.take i)) ((at_ + i : Nat) : Int))) := by
    refine (blk_cell HL.out.bk (at_ + i)).trans ?_
    rw [rd_at _ _ (by omega)]
    unfold u8c
    simp [hlen, show at_ + i < 512 by omega]
   have p1 : (0 ≤ (at_ : Int) + (i : Int)) = True := eq_true (by omega)
   have p2 : ((at_ : Int) + (i : Int) < 512) = True := eq_true (by omega)
   have p3 : (at_ + i < 512) = True := eq_true (by omega)
   have hmx : (at_ : Int) ≤ 512 := by omega
   have hmi : (i : Int) ≤ 512 := by omega
   clear hxx hC hlt hif hfit
   go_wp2
   have hlt := of_eq_true q1
   have hif : i < f.length := by have := HN.out; omega
   have hs : (splice cur at_ (f.take i)).set (at_ + i) x = splice cur at_ (f.take (i + 1)) := by
    rw [HX.out, rd_at f i hif]
    exact splice_more cur f at_ i hif (by have := HC.out; have := HFIT.out; omega)
   have hL2 : LaidG w (wr.setCell ⟨bb, at_ + i, none⟩ (.int .u8 x)) bb (splice cur at_ (f.take (i + 1))) :=
    ⟨by rw [← hs, show (u8c ((splice cur at_ (f.take i)).set (at_ + i) x)).toArray = (u8c (splice cur at_ (f.take i))).toArray.setIfInBounds (at_ + i) (.int .u8 x) by unfold u8c; simp]; exact blk_set HL.out.bk (at_ + i) (.int .u8 x),
     HL.out.grown.trans ⟨rfl, rfl, rfl, by simp [World.setCell], fun k _ hne => Below.heap_setCell _ _ _ _ (fun e => hne (by rw [e]))⟩⟩
   have hi1 := HI.out
   obtain ⟨k1, rfl⟩ : ∃ k1, gk = k1 + 1 := ⟨gk - 1, by omega⟩
   go_roundg k1
   case measure => omega
   case rel => exact ⟨i + 1, by go_num, ⟨by omega⟩, ⟨hL2⟩⟩
  ·obtain rfl : i = n := by have := HI.out; omega
   have q0 : ((i : Int) < (i : Int)) = False := eq_false (by omega)
   clear hlt
   go_wp2
   go_ret
   refine ⟨rfl, ?_⟩
   have := HL.out
   rwa [List.take_of_length_le (by have := HN.out; omega)] at this
theorem ref_lay (bb at_ : Nat) (A : Option Addr) (n c base T : Nat) (cur f : List Int) (w : World) (hbk : w.heap[bb]? = some (.cells (u8c cur).toArray 5 (0, 0))) (hl : cur.length = 512) (hf : Kd.R (Kd.int .u8) T w base (fun k => k ≠ bb) (.slice A n c) f) (hfit : at_ + f.length ≤ 512) :
  Calls Tryz.prog 43 #[.slice (some ⟨bb, 0, none⟩) 512 512, .int .i64 (at_ : Int), .slice A n c] w fun e w' => e = .returned (.slice (some ⟨bb, 0, none⟩) 512 512) ∧ LaidG w w' bb (splice cur at_ f) :=
 ref_layC bb at_ A n c cur f w hbk hl (Kd.R_reads' hf).1 (fun W hg => (Kd.R_reads' (Kd.R_grown hf hg (fun k hk e => hk (by injection e)))).2.2) hfit
theorem bytes_below (w : World) (s : ByteArray) : Below w.heap.size w (Lib.bytesWorld w 5 s) :=
 ⟨rfl, rfl, rfl, by rw [Lib.bytesWorld_size]; omega, fun k hk => Lib.bytesWorld_at_old w _ s k hk⟩
theorem bytes_C (w : World) (s : ByteArray) (bb : Nat) (hbb : bb < w.heap.size) (hs : s.size ≤ 9223372036854775807) : ∀ W, (Lib.bytesWorld w 5 s).grownBy W (some bb) → Kd.C (Kd.int .u8) W (some ⟨w.heap.size, 0, none⟩) (numsL s).length (numsL s) := by
 intro W hg
 have hl : (numsL s).length = s.size := by unfold numsL; simp
 refine Kd.C_of_reads (d := (0 : Int)) (h1 := fun _ => rfl) ⟨rfl, by rw [hl]; exact hs, fun _ => ⟨_, rfl, fun j hj => ?_⟩⟩
 have hc := Lib.bytesWorld_cell w 5 s j (by omega)
 have h0 : (Addr.add ⟨w.heap.size, 0, none⟩ j) = ⟨w.heap.size, j, none⟩ := by simp [Addr.add]; try (intro h; omega)
 rw [h0]
 have hb := hg.block w.heap.size (by rw [Lib.bytesWorld_size]; omega) (fun e => by injection e with e; omega)
 have : W.cell? ⟨w.heap.size, j, none⟩ = (Lib.bytesWorld w 5 s).cell? ⟨w.heap.size, j, none⟩ := by
  unfold World.cell?
  rw [hb]
 rw [this, hc]
 unfold numsL
 simp [List.getD, hj]
 cases s.data[j]? <;> rfl
end Go.Proofs.YtkfcfbggojmfkaaGreatDoor.P
end

section
namespace Go.Proofs.YtkfcfbggojmfkaaGreatDoor.P
open Go Go.RowKit Go.Proofs.YtkfcfbggojmfkaaGreatDoorW.PrintWords Go.Proofs.YtkfcfbggojmfkaaGreatDoorW.PrintLast Go.Proofs.YtkfcfbggojmfkaaGreatDoorW.PrintMore
set_option linter.unusedVariables false
set_option linter.unusedSimpArgs false

set_option maxRecDepth 100000 in
set_option maxHeartbeats 4000000 in
theorem ref_magic (way : Int) (hw : way = 0 ∨ way = 1 ∨ way = 2) (w : World) :
  Calls Tryz.prog 39 #[.int .i64 way] w fun e w' => e = .returned (.string (magicB way)) ∧ Below w.heap.size w w' := by
 rcases hw with rfl | rfl | rfl
 all_goals
  go_enter Tryz.func39, Tryz.ntmps39
  go_wp2
  go_ret
  exact ⟨rfl, below_alloc (Below.refl _ _) _⟩
structure TW (w0 w : World) (bb gl ga gw : Nat) (lc ac wc : Array Value) (b : List Int) (W : World) : Prop where
 bk : W.heap[bb]? = some (.cells (u8c b).toArray 5 (0, 0))
 l : W.heap[gl]? = some (.cells lc 9 (0, 0))
 a : W.heap[ga]? = some (.cells ac 3 (0, 0))
 wd : W.heap[gw]? = some (.cells wc 3 (0, 0))
 rest : ∀ k, k < w.heap.size → k ≠ bb → W.heap[k]? = w.heap[k]?
 size : w.heap.size ≤ W.heap.size
 below : Below w0.heap.size w0 W
theorem TW.up {w0 w W W' : World} {bb gl ga gw : Nat} {lc ac wc : Array Value} {b : List Int} (p : TW w0 w bb gl ga gw lc ac wc b W) (hb : Below W.heap.size W W') : TW w0 w bb gl ga gw lc ac wc b W' :=
 ⟨blk_below p.bk hb, blk_below p.l hb, blk_below p.a hb, blk_below p.wd hb, fun k h1 h2 => (hb.block k (Nat.lt_of_lt_of_le h1 p.size)).trans (p.rest k h1 h2), Nat.le_trans p.size hb.size, below_step p.below hb⟩
theorem TW.lay {w0 w W W' : World} {bb gl ga gw : Nat} {lc ac wc : Array Value} {b b' : List Int} (p : TW w0 w bb gl ga gw lc ac wc b W) (hg : w0.heap.size ≤ bb) (hL : LaidG W W' bb b') : TW w0 w bb gl ga gw lc ac wc b' W' :=
 ⟨hL.bk, blk_grown p.l hL.grown (fun e => blk_ne p.l p.bk (by decide) (by injection e)), blk_grown p.a hL.grown (fun e => blk_ne p.a p.bk (by decide) (by injection e)), blk_grown p.wd hL.grown (fun e => blk_ne p.wd p.bk (by decide) (by injection e)),
  fun k h1 h2 => (hL.grown.block k (Nat.lt_of_lt_of_le h1 p.size) (fun e => h2 (by injection e))).trans (p.rest k h1 h2), Nat.le_trans p.size hL.grown.size, hL.below p.below hg⟩
def RefTextsPost (h : S31) (bb : Nat) (cur : List Int) (w0 w : World) (e : Ending) (w' : World) : Prop :=
 match textsP h (textsL 1) cur with
 | some c => e = .returned (.tuple #[.slice (some ⟨bb, 0, none⟩) 512 512, .bool true]) ∧ Laid w0 w w' bb c
 | none => e = .returned (.tuple #[.slice none 0 0, .bool false]) ∧ Below w0.heap.size w0 w'
theorem refTexts_ok {h : S31} {bb : Nat} {cur c : List Int} {w0 w w' : World} (hr : textsP h (textsL 1) cur = some c) (hl : Laid w0 w w' bb c) : RefTextsPost h bb cur w0 w (.returned (.tuple #[.slice (some ⟨bb, 0, none⟩) 512 512, .bool true])) w' := by
 unfold RefTextsPost
 rw [hr]
 exact ⟨rfl, hl⟩
theorem refTexts_not {h : S31} {bb : Nat} {cur : List Int} {w0 w w' : World} (hr : textsP h (textsL 1) cur = none) (hl : Below w0.heap.size w0 w') : RefTextsPost h bb cur w0 w (.returned (.tuple #[.slice none 0 0, .bool false])) w' := by
 unfold RefTextsPost
 rw [hr]
 exact ⟨rfl, hl⟩
theorem alloc3 (W : World) (a b c : Array Value) (ta tb tc : TypeId) : (((W.alloc (.cells a ta)).alloc (.cells b tb)).alloc (.cells c tc)).heap[W.heap.size]? = some (.cells a ta (0, 0)) ∧ (((W.alloc (.cells a ta)).alloc (.cells b tb)).alloc (.cells c tc)).heap[W.heap.size + 1]? = some (.cells b tb (0, 0)) ∧ (((W.alloc (.cells a ta)).alloc (.cells b tb)).alloc (.cells c tc)).heap[W.heap.size + 1 + 1]? = some (.cells c tc (0, 0)) ∧ Below W.heap.size W (((W.alloc (.cells a ta)).alloc (.cells b tb)).alloc (.cells c tc)) := by
 have h1 := row2_alloc W a ta
 have s1 : (W.alloc (.cells a ta)).heap.size = W.heap.size + 1 := by simp
 have h2 := row2_alloc (W.alloc (.cells a ta)) b tb
 have s2 : ((W.alloc (.cells a ta)).alloc (.cells b tb)).heap.size = W.heap.size + 1 + 1 := by simp
 have h3 := row2_alloc ((W.alloc (.cells a ta)).alloc (.cells b tb)) c tc
 rw [s1] at h2
 rw [s2] at h3
 have b1 := below_alloc (Below.refl W.heap.size W) (.cells a ta)
 have b2 := below_alloc (Below.refl (W.alloc (.cells a ta)).heap.size (W.alloc (.cells a ta))) (.cells b tb)
 have b3 := below_alloc (Below.refl ((W.alloc (.cells a ta)).alloc (.cells b tb)).heap.size ((W.alloc (.cells a ta)).alloc (.cells b tb))) (.cells c tc)
 exact ⟨blk_below (blk_below h1 b2) b3, blk_below h2 b3, h3, below_step b1 (below_step b2 b3)⟩
def strs5 (h : S31) : Array Value := #[.string h.f0, .string h.f7, .string h.f9, .string h.f10, .string h.f13]
def ats5 : Array Value := #[.int .i64 0, .int .i64 157, .int .i64 265, .int .i64 297, .int .i64 345]
def wds5 : Array Value := #[.int .i64 100, .int .i64 100, .int .i64 32, .int .i64 32, .int .i64 155]
theorem texts5 (h : S31) (j : Nat) (hj : j < 5) : ∃ at_ wd idx : Nat, (textsL 1)[j]? = some (at_, wd, idx) ∧ (strs5 h)[j]? = some (.string (txtOf h idx)) ∧ ats5[j]? = some (.int .i64 (at_ : Int)) ∧ wds5[j]? = some (.int .i64 (wd : Int)) ∧ at_ + wd ≤ 512 := by
 match j, hj with
 | 0, _ => exact ⟨0, 100, 0, rfl, rfl, rfl, rfl, by decide⟩
 | 1, _ => exact ⟨157, 100, 7, rfl, rfl, rfl, rfl, by decide⟩
 | 2, _ => exact ⟨265, 32, 9, rfl, rfl, rfl, rfl, by decide⟩
 | 3, _ => exact ⟨297, 32, 10, rfl, rfl, rfl, rfl, by decide⟩
 | 4, _ => exact ⟨345, 155, 13, rfl, rfl, rfl, rfl, by decide⟩
set_option maxRecDepth 100000 in
set_option maxHeartbeats 4000000 in
theorem ref_texts (h : S31) (v : Value) (bb : Nat) (cur : List Int) (w0 w : World) (hB : Below w0.heap.size w0 w) (hBb : w0.heap.size ≤ bb) (hbk : w.heap[bb]? = some (.cells (u8c cur).toArray 5 (0, 0))) (hl : Blk cur) (hs : ∀ idx, (txtOf h idx).size ≤ 4294967296) :
  Calls Tryz.prog 40 #[.slice (some ⟨bb, 0, none⟩) 512 512, .agg (cells25 h v)] w (RefTextsPost h bb cur w0 w) := by
 have HBB := Aside0.mk hBb
 have HS := Aside0.mk hs
 have HBL := Aside0.mk hl
 have HBK := Aside0.mk hbk
 have HB := Aside0.mk hB
 obtain ⟨cs, hcs⟩ : ∃ cs, cs = cells25 h v := ⟨_, rfl⟩
 rw [← hcs]
 have k0 : cs[0]? = some (.string h.f0) := by rw [hcs]; rfl
 have k7 : cs[7]? = some (.string h.f7) := by rw [hcs]; rfl
 have k9 : cs[9]? = some (.string h.f9) := by rw [hcs]; rfl
 have k10 : cs[10]? = some (.string h.f10) := by rw [hcs]; rfl
 have k13 : cs[13]? = some (.string h.f13) := by rw [hcs]; rfl
 clear hBb hs hl hbk hB hcs
 go_enter Tryz.func40, Tryz.ntmps40
 go_upto_region 1 with (fail)
 have hgh := row2_alloc w cs 31
 have hb0 := below_alloc (Below.refl w.heap.size w) (.cells cs 31)
 generalize w.alloc (.cells cs 31) = wh at hgh hb0 ⊢
 obtain ⟨gh, hghe⟩ : ∃ n, n = w.heap.size := ⟨_, rfl⟩
 rw [← hghe] at hgh ⊢
 have c0 : wh.cell? ⟨gh, 0, none⟩ = some (.string h.f0) := (blk_cell hgh 0).trans k0
 have c7 : wh.cell? ⟨gh, 7, none⟩ = some (.string h.f7) := (blk_cell hgh 7).trans k7
 have c9 : wh.cell? ⟨gh, 9, none⟩ = some (.string h.f9) := (blk_cell hgh 9).trans k9
 have c10 : wh.cell? ⟨gh, 10, none⟩ = some (.string h.f10) := (blk_cell hgh 10).trans k10
 have c13 : wh.cell? ⟨gh, 13, none⟩ = some (.string h.f13) := (blk_cell hgh 13).trans k13
 have HB0 := Aside0.mk hb0
 clear hb0 hghe hgh k0 k7 k9 k10 k13
 go_upto_region 4 with (fail)
 have ha3 := alloc3 wh (strs5 h) ats5 wds5 9 3 3
 change Code.wp _ _ _ _ (((wh.alloc (.cells (strs5 h) 9)).alloc (.cells ats5 3)).alloc (.cells wds5 3))
 generalize ((wh.alloc (.cells (strs5 h) 9)).alloc (.cells ats5 3)).alloc (.cells wds5 3) = w1 at ha3 ⊢
 generalize wh.heap.size + 1 + 1 = gw at ha3 ⊢
 generalize wh.heap.size + 1 = ga at ha3 ⊢
 obtain ⟨a1, a2, a3, a4⟩ := ha3
 have hb1 := below_step HB0.out a4
 generalize wh.heap.size = gl at a1 ⊢
 have HT : Aside0 (TW w0 w bb gl ga gw (strs5 h) ats5 wds5 cur w1) := ⟨⟨blk_below HBK.out hb1, a1, a2, a3, fun k h1 h2 => hb1.block k h1, hb1.size, below_step HB.out hb1⟩⟩
 obtain ⟨R, hR⟩ : ∃ R, R = textsP h (textsL 1) cur := ⟨_, rfl⟩
 have HR := Aside0.mk hR
 clear a1 a2 a3 a4 hb1 c0 c7 c9 c10 c13 HB0 hR
 go_wp2
 go_loopg [9, 0] 5 (fun kq v9 v0 wx => ∃ (j : Nat) (b : List Int), v9 = .int .i64 (j : Int) ∧ v0 = .slice (some ⟨bb, 0, none⟩) 512 512 ∧ Aside0 (j + kq = 5) ∧ Aside0 (textsP h ((textsL 1).drop j) b = R) ∧ Aside0 (Blk b) ∧ Aside0 (TW w0 w bb gl ga gw (strs5 h) ats5 wds5 b wx))
 case atStart => exact ⟨0, cur, rfl, rfl, ⟨Nat.zero_add _⟩, ⟨HR.out.symm⟩, HBL, HT⟩
 case round =>
  obtain ⟨j, b, rfl, rfl, HJ, HGT, HBLx, HW⟩ := hrel
  clear HT HBK HB
  by_cases hlt : j < 5
  ·obtain ⟨at_, wd, idx, hT, hst, hat, hwd, hfit⟩ := texts5 h j hlt
   have q0 : ((j : Int) < 5) = True := eq_true (by omega)
   have q1 : (j < 5) = True := eq_true hlt
   have hmx : (j : Int) ≤ 4 := by omega
   have f1 := (blk_cell HW.out.l j).trans hst
   have f2 := (blk_cell HW.out.wd j).trans hwd
   obtain ⟨s, hs⟩ : ∃ s, s = txtOf h idx := ⟨_, rfl⟩
   rw [← hs] at f1
   obtain ⟨⟨fl, ok⟩, hput⟩ : ∃ p, sputF s (wd : Int) = p := ⟨_, rfl⟩
   obtain ⟨kp, hkp⟩ := Ev.rounds (g := fun k => mudlarkref02_Put.f k s (wd : Int)) (RefPutS_eq s (wd : Int) (by rw [hs]; exact HS.out idx) (by omega))
   rw [hput] at hkp
   have HPC := Aside0.mk (fun W => mudlarkref02_Put.calls kp s (wd : Int) fl ok W hkp)
   have hltT : j < (textsL 1).length := by rw [show (textsL 1).length = 5 from rfl]; exact hlt
   have HGT2 : Aside0 (textsP h ((at_, wd, idx) :: (textsL 1).drop (j + 1)) b = R) := ⟨by rw [← HGT.out, List.drop_eq_getElem_cons hltT, show (textsL 1)[j] = (at_, wd, idx) from (List.getElem?_eq_some_iff.1 hT).2]⟩
   have HA := Aside0.mk hat
   have HF := Aside0.mk hfit
   have HSX := Aside0.mk hs
   have HPUT := Aside0.mk hput
   have HX := Aside0.mk (show j < 5 from hlt)
   clear hT hst hat hwd hs hput hkp hltT HGT hlt
   have HBBW := Aside0.mk (show bb < wr.heap.size from blk_lt HW.out.bk)
   go_upto_region 7 with (fail)
   go_region_held3 (fun w' => w'.cell? ⟨gl, j, none⟩ = some (.string s) ∧ w'.cell? ⟨gw, j, none⟩ = some (.int .i64 (wd : Int))) (first | go_keep | exact ⟨k1, k2⟩) ((go_at_call 72; refine (HPC.out _).mono ?_; rintro e w7 ⟨v7, rfl, hR7, hb7⟩; obtain ⟨A7, c7, rfl⟩ := Kd.R_slice hR7; have k1 := pw_cell_below hb7 f1; have k2 := pw_cell_below hb7 f2; have HB7 := Aside0.mk hb7; have HR7 := Aside0.mk hR7; clear hb7 hR7))
   go_upto_region 8 with (fail)
   have HW7 := Aside0.mk (TW.up (W := wr.drew) ⟨HW.out.bk, HW.out.l, HW.out.a, HW.out.wd, HW.out.rest, HW.out.size, below_drew HW.out.below⟩ HB7.out)
   have f3 := (blk_cell HW7.out.a j).trans HA.out
   have f1 := k1
   clear HW k2
   cases ok with
   | false =>
    have hn : R = none := by rw [← HGT2.out]; exact textsP_not h at_ wd idx _ b s fl HSX.out HPUT.out
    rw [HR.out] at hn
    have HN := Aside0.mk hn
    clear hn
    go_wp2
    go_ret2
    exact refTexts_not HN.out HW7.out.below
   | true =>
    have HPO := Aside0.mk (sput_ok s wd (by rw [HPUT.out]))
    have HGT3 := Aside0.mk ((textsP_ok h at_ wd idx ((textsL 1).drop (j + 1)) b s fl HSX.out HPUT.out).symm.trans HGT2.out)
    clear HGT2
    by_cases hs0 : s.toList = []
    ·have HS0 := Aside0.mk hs0
     go_wp2
     have hj1 := HJ.out
     have hlt := HX.out
     obtain ⟨k1, rfl⟩ : ∃ k1, gk = k1 + 1 := ⟨gk - 1, by omega⟩
     go_roundg k1
     case measure => omega
     case rel => exact ⟨j + 1, b, by go_num, rfl, ⟨by omega⟩, ⟨by rw [← HGT3.out, if_pos HS0.out]⟩, HBLx, HW7⟩
    ·have HS0 := Aside0.mk hs0
     have e52 : s.toList.isEmpty = false := by
      cases hl : s.toList with
      | nil => exact absurd hl hs0
      | cons a l => rfl
     have HFL : Aside0 (fl.length = wd ∧ Bytes fl) := ⟨by have := HPO.out; rw [HPUT.out] at this; exact this⟩
     have HLY := Aside0.mk (ref_lay bb at_ A7 fl.length c7 _ _ b fl w7 HW7.out.bk HBLx.out.len (Kd.R_mono (Kd.R_bound HR7.out) (fun k hk => by have := hk.2.1; have := blk_lt HW7.out.bk; have h9 : bb < wr.drew.heap.size := HBBW.out; omega)) (by rw [HFL.out.1]; exact HF.out))
     clear hs0
     go_wp2_with (go_at_call 43; refine HLY.out.mono ?_; rintro e w8 ⟨rfl, L8⟩; have HL8 := Aside0.mk L8; clear L8)
     have hj1 := HJ.out
     have hlt := HX.out
     obtain ⟨k1, rfl⟩ : ∃ k1, gk = k1 + 1 := ⟨gk - 1, by omega⟩
     go_roundg k1
     case measure => omega
     case rel => exact ⟨j + 1, splice b at_ fl, by go_num, rfl, ⟨by omega⟩, ⟨by rw [← HGT3.out, if_neg HS0.out]⟩, ⟨HBLx.out.splice at_ fl HFL.out.2 (by rw [HFL.out.1]; exact HF.out)⟩, ⟨HW7.out.lay HBB.out HL8.out⟩⟩
  ·obtain rfl : j = 5 := by have := HJ.out; omega
   have HRS : Aside0 (textsP h (textsL 1) cur = some b) := ⟨by rw [← HR.out, ← HGT.out]; rfl⟩
   clear hlt HGT HR HJ
   go_wp2
   go_ret2
   exact refTexts_ok HRS.out ⟨HW.out.bk, HW.out.rest, HW.out.size, HW.out.below⟩
end Go.Proofs.YtkfcfbggojmfkaaGreatDoor.P
end

section
namespace Go.Proofs.YtkfcfbggojmfkaaGreatDoor.P
open Go Go.RowKit Go.Proofs.YtkfcfbggojmfkaaGreatDoorW.PrintWords Go.Proofs.YtkfcfbggojmfkaaGreatDoorW.PrintLast Go.Proofs.YtkfcfbggojmfkaaGreatDoorW.PrintMore
set_option linter.unusedVariables false
set_option linter.unusedSimpArgs false

def wideB (h : S31) : Bool := decide (h.f8 < 0) || decide (2 < h.f8) || decide (1099511627776 < h.f4) || decide (1099511627776 < h.f16) || decide (4 < (h.f14.length : Int))
def fitsB (h : S31) : Bool := !wideB h && !(bareV h || bareP h) && !(h.f14.any zeroPart) && bareS h
theorem fitsB_head {h : S31} (e : fitsB h = true) : headFB h = true ∧ h.f4 ≤ 1099511627776 ∧ h.f16 ≤ 1099511627776 := by
 unfold fitsB wideB at e
 unfold headFB bareB
 simp only [Bool.and_eq_true, Bool.not_eq_true', Bool.or_eq_false_iff, decide_eq_false_iff_not, decide_eq_true_eq] at e ⊢
 obtain ⟨⟨⟨⟨⟨⟨⟨h1, h2⟩, h3⟩, h4⟩, h5⟩, h6, h7⟩, h8⟩, h9⟩ := e
 exact ⟨⟨⟨⟨⟨by omega, by omega⟩, ⟨h6, h7⟩, h9⟩, by omega⟩, h8⟩, by omega, by omega⟩
set_option maxRecDepth 100000 in
set_option maxHeartbeats 4000000 in
theorem ref_fits (h : S31) (A14 : Option Addr) (c14 : Nat) (w : World) (hp : Kd.C k64 w A14 h.f14.length h.f14) (hc : h.f14.length ≤ c14) :
  Calls Tryz.prog 41 #[.agg (cells25 h (.slice A14 h.f14.length c14))] w fun e w' => e = .returned (.bool (fitsB h)) ∧ Below w.heap.size w w' := by
 have HP := Aside0.mk hp
 have HC := Aside0.mk hc
 obtain ⟨n, hn⟩ : ∃ n, n = h.f14.length := ⟨_, rfl⟩
 obtain ⟨cs, hcs⟩ : ∃ cs, cs = cells25 h (.slice A14 n c14) := ⟨_, rfl⟩
 rw [← hn, ← hcs]
 have HN := Aside0.mk hn
 have HCS := Aside0.mk hcs
 clear hp hc hn hcs
 go_enter Tryz.func41, Tryz.ntmps41
 go_upto_region 1 with (fail)
 have hgh := row2_alloc w cs 31
 have hb0 := below_alloc (Below.refl w.heap.size w) (.cells cs 31)
 generalize w.alloc (.cells cs 31) = wb at hgh hb0 ⊢
 generalize w.heap.size = bx at hgh ⊢
 rw [HCS.out] at hgh
 have c4 : wb.cell? ⟨bx, 4, none⟩ = some (.int .i64 h.f4) := (blk_cell hgh 4).trans rfl
 have c6 : wb.cell? ⟨bx, 6, none⟩ = some (.int .u8 h.f6) := (blk_cell hgh 6).trans rfl
 have c8 : wb.cell? ⟨bx, 8, none⟩ = some (.int .i64 h.f8) := (blk_cell hgh 8).trans rfl
 have c9 : wb.cell? ⟨bx, 9, none⟩ = some (.string h.f9) := (blk_cell hgh 9).trans rfl
 have c10 : wb.cell? ⟨bx, 10, none⟩ = some (.string h.f10) := (blk_cell hgh 10).trans rfl
 have c11 : wb.cell? ⟨bx, 11, none⟩ = some (.int .i64 h.f11) := (blk_cell hgh 11).trans rfl
 have c12 : wb.cell? ⟨bx, 12, none⟩ = some (.int .i64 h.f12) := (blk_cell hgh 12).trans rfl
 have c13 : wb.cell? ⟨bx, 13, none⟩ = some (.string h.f13) := (blk_cell hgh 13).trans rfl
 have c14_ : wb.cell? ⟨bx, 14, none⟩ = some (.slice A14 n c14) := (blk_cell hgh 14).trans rfl
 have c15 : wb.cell? ⟨bx, 15, none⟩ = some (.bool h.f15) := (blk_cell hgh 15).trans rfl
 have c16 : wb.cell? ⟨bx, 16, none⟩ = some (.int .i64 h.f16) := (blk_cell hgh 16).trans rfl
 have HW := Aside0.mk hb0
 clear hgh hb0
 go_cut [27] from 1 to 0 (fun v27 wx => wx = wb ∧ v27 = .bool (wideB h))
 case first =>
  have HWD : Aside0 (wideB h = (decide (h.f8 < 0) || decide (2 < h.f8) || decide (1099511627776 < h.f4) || decide (1099511627776 < h.f16) || decide (4 < (n : Int)))) := ⟨by rw [HN.out]; rfl⟩
  by_cases h1 : h.f8 < 0
  ·have d1 : decide (h.f8 < 0) = true := decide_eq_true h1
   clear h1
   go_wp2
   go_meet
   exact ⟨rfl, by rw [HWD.out, d1]; rfl⟩
  have d1 : decide (h.f8 < 0) = false := decide_eq_false h1
  clear h1
  by_cases h2 : 2 < h.f8
  ·have d2 : decide (2 < h.f8) = true := decide_eq_true h2
   clear h2
   go_wp2
   go_meet
   exact ⟨rfl, by rw [HWD.out, d1, d2]; rfl⟩
  have d2 : decide (2 < h.f8) = false := decide_eq_false h2
  clear h2
  by_cases h3 : 1099511627776 < h.f4
  ·have d3 : decide (1099511627776 < h.f4) = true := decide_eq_true h3
   clear h3
   go_wp2
   go_meet
   exact ⟨rfl, by rw [HWD.out, d1, d2, d3]; rfl⟩
  have d3 : decide (1099511627776 < h.f4) = false := decide_eq_false h3
  clear h3
  by_cases h4 : 1099511627776 < h.f16
  ·have d4 : decide (1099511627776 < h.f16) = true := decide_eq_true h4
   clear h4
   go_wp2
   go_meet
   exact ⟨rfl, by rw [HWD.out, d1, d2, d3, d4]; rfl⟩
  have d4 : decide (1099511627776 < h.f16) = false := decide_eq_false h4
  clear h4
  go_wp2
  go_meet
  exact ⟨rfl, by rw [HWD.out, d1, d2, d3, d4]; simp⟩
 case rest =>
  obtain ⟨rfl, rfl⟩ := hcut
  cases hv : wideB h with
  | true =>
   have HX : Aside0 (fitsB h = false) := ⟨by unfold fitsB; rw [hv]; rfl⟩
   clear hv
   go_wp2
   go_ret
   exact ⟨by rw [HX.out]; rfl, HW.out⟩
  | false =>
   have HV := Aside0.mk hv
   clear hv
   go_upto_region 3 with (fail)
   go_cut [60] from 1 to 0 (fun v60 wx => wx = wc ∧ v60 = .bool (bareV h || bareP h))
   case first =>
    have HBD : Aside0 ((bareV h || bareP h) = (((h.f8 == 0) && (!noneS h.f9 || !noneS h.f10 || (h.f11 != 0) || (h.f12 != 0))) || ((h.f8 != 1) && !noneS h.f13))) := ⟨rfl⟩
    clear c4 c6 c14_ c15 c16
    generalize h.f13 = s13 at c13 HBD
    generalize h.f9 = s9 at c9 HBD
    generalize h.f10 = s10 at c10 HBD
    by_cases h8 : h.f8 = 0
    ·have e8 : (h.f8 == 0) = true := beq_iff_eq.2 h8
     have e9 : (h.f8 != 1) = true := by rw [h8]; rfl
     clear h8
     go_wp2
     all_goals go_meet
     all_goals exact ⟨rfl, by rw [HBD.out]; simp [noneS, *] <;> (cases s13.toList <;> simp)⟩
    ·have e8 : (h.f8 == 0) = false := beq_eq_false_iff_ne.2 h8
     clear h8
     by_cases h9 : h.f8 = 1
     ·have e9 : (h.f8 != 1) = false := by rw [h9]; rfl
      clear h9
      go_wp2
      all_goals go_meet
      all_goals exact ⟨rfl, by rw [HBD.out]; simp [noneS, *] <;> (cases s13.toList <;> simp)⟩
     ·have e9 : (h.f8 != 1) = true := bne_iff_ne.2 h9
      clear h9
      go_wp2
      all_goals go_meet
      all_goals exact ⟨rfl, by rw [HBD.out]; simp [noneS, *] <;> (cases s13.toList <;> simp)⟩
   case rest =>
    obtain ⟨rfl, rfl⟩ := hcut
    cases hv : (bareV h || bareP h) with
    | true =>
     have HX : Aside0 (fitsB h = false) := ⟨by unfold fitsB; rw [hv]; simp⟩
     clear hv
     go_wp2
     go_ret
     exact ⟨by rw [HX.out]; rfl, HW.out⟩
    | false =>
     have HV2 := Aside0.mk hv
     clear hv
     have HN4 : Aside0 (n ≤ 4) := ⟨by have := HV.out; unfold wideB at this; simp only [Bool.or_eq_false_iff, decide_eq_false_iff_not] at this; rw [HN.out]; omega⟩
     go_upto_region 5 with (fail)
     obtain ⟨P, hP⟩ : ∃ P, P = h.f14 := ⟨_, rfl⟩
     have HPP := Aside0.mk hP
     have HNP : Aside0 (n = P.length) := ⟨by rw [hP]; exact HN.out⟩
     have HF : Aside0 (fitsB h = (!(P.any zeroPart) && bareS h)) := ⟨by unfold fitsB; rw [HV.out, HV2.out, hP]; simp⟩
     clear hP
     go_wp2
     go_loopg [3] n (fun kq v3 wx => ∃ i : Nat, v3 = .int .i64 (i : Int) ∧ wx = wc ∧ Aside0 (i + kq = n) ∧ Aside0 (P.any zeroPart = (P.drop i).any zeroPart))
     case atStart => exact ⟨0, rfl, rfl, ⟨Nat.zero_add _⟩, ⟨rfl⟩⟩
     case round =>
      obtain ⟨i, rfl, rfl, HI, HA⟩ := hrel
      by_cases hlt : i < n
      ·have hltP : i < P.length := by rw [← HNP.out]; exact hlt
       obtain ⟨pp, hpp⟩ : ∃ p, P[i] = p := ⟨_, rfl⟩
       have hcp : Kd.C k64 w A14 n P := by rw [HNP.out, HPP.out]; exact HP.out
       obtain ⟨ad, hA, hx0, hx1⟩ := at_T64 hcp (i : Int) (by omega) (by omega)
       have erd : rd_T64 P (i : Int) = pp := by unfold rd_T64; rw [← hpp]; simp [hltP]
       rw [erd, Int.toNat_natCast] at hx0 hx1
       subst hA
       have y0 := pw_cell_below HW.out hx0
       have y1 := pw_cell_below HW.out hx1
       have p0 : (0 ≤ (i : Int)) = True := eq_true (by omega)
       have q0 : ((i : Int) < (n : Int)) = True := eq_true (by omega)
       have q1 : (i < n) = True := eq_true hlt
       have hmx : (i : Int) ≤ 3 := by have := HN4.out; omega
       have HLT := Aside0.mk hlt
       have HA2 : Aside0 (P.any zeroPart = (zeroPart pp || (P.drop (i + 1)).any zeroPart)) := ⟨by rw [HA.out, List.drop_eq_getElem_cons hltP, hpp, List.any_cons]⟩
       clear hx0 hx1 hpp hcp erd hlt hltP HA
       by_cases z0 : pp.f0 = 0
       ·have e0 : (pp.f0 == 0) = true := beq_iff_eq.2 z0
        by_cases z1 : pp.f1 = 0
        ·have e1 : (pp.f1 == 0) = true := beq_iff_eq.2 z1
         have HX : Aside0 (fitsB h = false) := ⟨by rw [HF.out, HA2.out]; unfold zeroPart; rw [e0, e1]; rfl⟩
         clear z0 z1
         go_wp2
         go_ret
         exact ⟨by rw [HX.out]; rfl, HW.out⟩
        ·have e1 : (pp.f1 == 0) = false := beq_eq_false_iff_ne.2 z1
         have HA3 : Aside0 (P.any zeroPart = (P.drop (i + 1)).any zeroPart) := ⟨by rw [HA2.out]; unfold zeroPart; rw [e1]; simp⟩
         clear z0 z1
         go_wp2
         have hi1 := HI.out
         have hlt := HLT.out
         obtain ⟨k1, rfl⟩ : ∃ k1, gk = k1 + 1 := ⟨gk - 1, by omega⟩
         go_roundg k1
         case measure => omega
         case rel => exact ⟨i + 1, by go_num, rfl, ⟨by omega⟩, HA3⟩
       ·have e0 : (pp.f0 == 0) = false := beq_eq_false_iff_ne.2 z0
        have HA3 : Aside0 (P.any zeroPart = (P.drop (i + 1)).any zeroPart) := ⟨by rw [HA2.out]; unfold zeroPart; rw [e0]; simp⟩
        clear z0
        go_wp2
        have hi1 := HI.out
        have hlt := HLT.out
        obtain ⟨k1, rfl⟩ : ∃ k1, gk = k1 + 1 := ⟨gk - 1, by omega⟩
        go_roundg k1
        case measure => omega
        case rel => exact ⟨i + 1, by go_num, rfl, ⟨by omega⟩, HA3⟩
      ·obtain rfl : i = n := by have := HI.out; omega
       have q0 : ((i : Int) < (i : Int)) = False := eq_false (by omega)
       have HFF : Aside0 (fitsB h = ((h.f6 == 83) || (decide (i = 0) && !h.f15 && (h.f16 == 0)))) := ⟨by rw [HF.out, HA.out, List.drop_of_length_le (by rw [← HNP.out]; exact Nat.le_refl _), HN.out]; rfl⟩
       clear hlt HA
       by_cases h6 : h.f6 = 83
       ·have e6 : (h.f6 == 83) = true := beq_iff_eq.2 h6
        clear h6
        go_wp2
        go_ret
        exact ⟨by rw [HFF.out, e6]; rfl, HW.out⟩
       ·have e6 : (h.f6 == 83) = false := beq_eq_false_iff_ne.2 h6
        clear h6
        by_cases h14 : i = 0
        ·have HZ := Aside0.mk h14
         have e14 : ((i : Int) == 0) = true := beq_iff_eq.2 (by omega)
         clear h14
         cases h15 : h.f15 with
         | true =>
          rw [h15] at c15
          go_wp2
          go_ret
          exact ⟨by rw [HFF.out, e6, h15, HZ.out]; rfl, HW.out⟩
         | false =>
          rw [h15] at c15
          go_wp2
          go_ret
          exact ⟨by rw [HFF.out, e6, h15, HZ.out]; rfl, HW.out⟩
        ·have HZ := Aside0.mk h14
         have e14 : ((i : Int) == 0) = false := beq_eq_false_iff_ne.2 (by omega)
         clear h14
         go_wp2
         go_ret
         exact ⟨by rw [HFF.out, e6, decide_eq_false HZ.out]; rfl, HW.out⟩
end Go.Proofs.YtkfcfbggojmfkaaGreatDoor.P
end

section
namespace Go.Proofs.YtkfcfbggojmfkaaGreatDoor.P
open Go Go.RowKit Go.Proofs.YtkfcfbggojmfkaaGreatDoorW.PrintWords Go.Proofs.YtkfcfbggojmfkaaGreatDoorW.PrintLast Go.Proofs.YtkfcfbggojmfkaaGreatDoorW.PrintMore
set_option linter.unusedVariables false
set_option linter.unusedSimpArgs false

theorem put_le (x size : Int) (h : (putF x size).2 = true) : -4611686018427387904 ≤ x ∧ x ≤ 4611686018427387904 := by
 unfold putF at h
 split at h
 ·rename_i h1
  unfold putOctF at h1
  split at h1
  ·omega
  ·cases h1
 ·unfold putBinF at h
  split at h
  ·by_cases hx : x > 4611686018427387904 ∨ x < -4611686018427387904
   ·rw [putBin_out _ _ hx] at h
    cases h
   ·omega
  ·cases h
def refNumsP : List (Int × Nat × Nat) → List Int → Option (List Int)
 | [], b => some b
 | (x, at_, wd) :: r, b => if (putF x (wd : Int)).2 = true ∧ (0 ≤ x ∨ at_ = 136) then refNumsP r (splice b at_ (putF x (wd : Int)).1) else none
def base5E (h : S31) : List (Int × Nat × Nat) := [(h.f1, 100, 8), (h.f2, 108, 8), (h.f3, 116, 8), (h.f4, 124, 12), (h.f5, 136, 12)]
def partsE : List S64 → Nat → List (Int × Nat × Nat)
 | [], _ => []
 | x :: xs, i => (x.f0, 386 + 24 * i, 12) :: (x.f1, 398 + 24 * i, 12) :: partsE xs (i + 1)
def refE1 (h : S31) : List (Int × Nat × Nat) := base5E h ++ if 0 < h.f8 then [(h.f11, 329, 8), (h.f12, 337, 8)] else []
def refE (h : S31) : List (Int × Nat × Nat) := refE1 h ++ if h.f6 = 83 then (h.f16, 483, 12) :: partsE h.f14 0 else []
theorem refNumsP_app : ∀ (a b : List (Int × Nat × Nat)) (c : List Int), refNumsP (a ++ b) c = (refNumsP a c).bind (refNumsP b)
 | [], b, c => rfl
 | (x, at_, wd) :: a, b, c => by
  rw [List.cons_append]
  unfold refNumsP
  split
  ·exact refNumsP_app a b _
  ·rfl
theorem refNums_parts : ∀ (xs : List S64) (i : Nat) (b c : List Int), refNumsP (partsE xs i) b = some c → i + xs.length ≤ 4 → partsP xs i b = some c
 | [], i, b, c, h, _ => h
 | x :: xs, i, b, c, h, hl => by
  unfold partsE refNumsP at h
  split at h
  ·rename_i h0
   unfold refNumsP at h
   split at h
   ·rename_i h1
    rw [List.length_cons] at hl
    unfold partsP
    have e0 : okN x.f0 12 0 4611686018427387904 := ⟨h0.1, by rcases h0.2 with h | h <;> omega, (put_le _ _ h0.1).2⟩
    have e1 : okN x.f1 12 0 4611686018427387904 := ⟨h1.1, by rcases h1.2 with h | h <;> omega, (put_le _ _ h1.1).2⟩
    rw [if_pos e0, if_pos e1]
    have hh := refNums_parts xs (i + 1) _ c h (by omega)
    rw [show 386 + 24 * i = 386 + i * 24 by omega, show 398 + 24 * i = 386 + i * 24 + 12 by omega] at hh
    exact hh
   ·cases h
  ·cases h
theorem refNums_nums (h : S31) : ∀ (ts : List (Nat × Nat × Nat × Int × Int)) (b c : List Int), refNumsP (ts.map (fun t => (numOf h t.2.2.1, t.1, t.2.1))) b = some c → (∀ t ∈ ts, (0 ≤ numOf h t.2.2.1 ∨ t.1 = 136) → -4611686018427387904 ≤ numOf h t.2.2.1 → numOf h t.2.2.1 ≤ 4611686018427387904 → t.2.2.2.1 ≤ numOf h t.2.2.1 ∧ numOf h t.2.2.1 ≤ t.2.2.2.2) → numsP h ts b = some c
 | [], b, c, e, _ => e
 | t :: ts, b, c, e, ht => by
  rw [List.map_cons] at e
  unfold refNumsP at e
  split at e
  ·rename_i h0
   unfold numsP
   have hp := put_le _ _ h0.1
   have := ht t (by simp) h0.2 hp.1 hp.2
   rw [if_pos ⟨h0.1, this.1, this.2⟩]
   exact refNums_nums h ts _ c e (fun t h => ht t (by simp [h]))
  ·cases e
theorem refE_nums {h : S31} {b c : List Int} (e : refNumsP (refE h) b = some c) (hw : 0 ≤ h.f8) (h4 : h.f4 ≤ 1099511627776) (h16 : h.f16 ≤ 1099511627776) (hl : h.f14.length ≤ 4) (hs : h.f6 = 83 ∨ h.f14 = []) :
  ∃ d, numsP h (numbersL h.f8 h.f6) b = some d ∧ partsP h.f14 0 d = some c := by
 have e1 : refE h = (numbersL h.f8 h.f6).map (fun t => (numOf h t.2.2.1, t.1, t.2.1)) ++ (if h.f6 = 83 then partsE h.f14 0 else []) := by
  unfold refE refE1 numbersL base5E
  by_cases w0 : h.f8 = 0
  ·by_cases k : h.f6 = 83
   ·simp [w0, k, numOf]
   ·simp [w0, k, numOf]
  ·have w1 : 0 < h.f8 := by omega
   by_cases k : h.f6 = 83
   ·simp [w0, w1, k, numOf]
   ·simp [w0, w1, k, numOf]
 rw [e1, refNumsP_app] at e
 cases hd : refNumsP ((numbersL h.f8 h.f6).map (fun t => (numOf h t.2.2.1, t.1, t.2.1))) b with
 | none => rw [hd] at e; cases e
 | some d =>
  rw [hd, Option.bind_some] at e
  refine ⟨d, refNums_nums h _ b d hd ?_, ?_⟩
  ·intro t ht h0 h1 h2
   unfold numbersL at ht
   simp only [List.mem_append, List.mem_cons, List.mem_nil_iff, or_false] at ht
   rcases ht with ((rfl | rfl | rfl | rfl | rfl) | ht) | ht
   ·dsimp only at h0 ⊢; exact ⟨by omega, h2⟩
   ·dsimp only at h0 ⊢; exact ⟨by omega, h2⟩
   ·dsimp only at h0 ⊢; exact ⟨by omega, h2⟩
   ·dsimp only at h0 ⊢; exact ⟨by omega, by simpa [numOf] using h4⟩
   ·dsimp only at h0 ⊢; exact ⟨h1, h2⟩
   ·split at ht
    ·cases ht
    ·simp only [List.mem_cons, List.mem_nil_iff, or_false] at ht
     rcases ht with rfl | rfl
     ·dsimp only at h0 ⊢; exact ⟨by omega, h2⟩
     ·dsimp only at h0 ⊢; exact ⟨by omega, h2⟩
   ·split at ht
    ·simp only [List.mem_cons, List.mem_nil_iff, or_false] at ht
     rcases ht with rfl
     ·dsimp only at h0 ⊢; exact ⟨by omega, by simpa [numOf] using h16⟩
    ·cases ht
  ·by_cases k : h.f6 = 83
   ·rw [if_pos k] at e
    exact refNums_parts _ 0 d c e (by omega)
   ·rw [if_neg k] at e
    rcases hs with hs | hs
    ·exact absurd hs k
    ·rw [hs]
     exact e
structure R3 (w : World) (g : Nat) (cs : Array Value) (v6 v7 v8 : Value) (L A D : List Int) (W : World) : Prop where
 hd : W.heap[g]? = some (.cells cs 31 (0, 0))
 r6 : Kd.R (Kd.int .i64) 3 W w.heap.size (fun _ => True) v6 L
 r7 : Kd.R (Kd.int .i64) 3 W w.heap.size (fun _ => True) v7 A
 r8 : Kd.R (Kd.int .i64) 3 W w.heap.size (fun _ => True) v8 D
 n67 : ∀ k, v6.ownBlock = some k → v7.ownBlock = some k → False
 n68 : ∀ k, v6.ownBlock = some k → v8.ownBlock = some k → False
 n78 : ∀ k, v7.ownBlock = some k → v8.ownBlock = some k → False
 b : Below w.heap.size w W
theorem R3.up {w W W' : World} {g : Nat} {cs : Array Value} {v6 v7 v8 : Value} {L A D : List Int} (p : R3 w g cs v6 v7 v8 L A D W) (hb : Below W.heap.size W W') : R3 w g cs v6 v7 v8 L A D W' :=
 ⟨blk_below p.hd hb, Kd.R_below p.r6 hb, Kd.R_below p.r7 hb, Kd.R_below p.r8 hb, p.n67, p.n68, p.n78, below_step p.b hb⟩
theorem ne_of_new {u v v1 : Value} {W : World} {w : World} {L : List Int} (hu : Kd.R (Kd.int .i64) 3 W w.heap.size (fun _ => True) u L) (hn : ∀ k, v.ownBlock = some k → u.ownBlock = some k → False) (hat : v1.ownBlock = v.ownBlock ∨ ∃ b, v1.ownBlock = some b ∧ W.heap.size ≤ b) : ∀ k, v1.ownBlock = some k → u.ownBlock = some k → False := fun k h1 h2 => by
 rcases hat with e | ⟨b, e, hb⟩
 ·exact hn k (by rw [← e]; exact h1) h2
 ·have := Kd.R_lt hu k h2
  rw [e] at h1
  injection h1 with h1
  omega
theorem keep_row {u v : Value} {W w w1 : World} {L : List Int} (hu : Kd.R (Kd.int .i64) 3 W w.heap.size (fun _ => True) u L) (hn : ∀ k, v.ownBlock = some k → u.ownBlock = some k → False) (hg : W.grownBy w1 v.ownBlock) : Kd.R (Kd.int .i64) 3 w1 w.heap.size (fun _ => True) u L :=
 Kd.R_grown2 hu rfl hg (fun k hk e => hn k hk e.symm)
theorem R3.app6 {w W w1 : World} {g : Nat} {cs : Array Value} {v6 v7 v8 v1 : Value} {L A D ys : List Int} (p : R3 w g cs v6 v7 v8 L A D W) (hr : Kd.R (Kd.int .i64) 3 w1 w.heap.size (fun _ => True) v1 (L ++ ys)) (hb : Below w.heap.size w w1) (hg : W.grownBy w1 v6.ownBlock) (hat : v1.ownBlock = v6.ownBlock ∨ ∃ b, v1.ownBlock = some b ∧ W.heap.size ≤ b) : R3 w g cs v1 v7 v8 (L ++ ys) A D w1 :=
 ⟨blk_grown p.hd hg (Kd.R_ne p.r6 p.hd (by decide)), hr, keep_row p.r7 p.n67 hg, keep_row p.r8 p.n68 hg, ne_of_new p.r7 p.n67 hat, ne_of_new p.r8 p.n68 hat, p.n78, hb⟩
theorem R3.app7 {w W w1 : World} {g : Nat} {cs : Array Value} {v6 v7 v8 v1 : Value} {L A D ys : List Int} (p : R3 w g cs v6 v7 v8 L A D W) (hr : Kd.R (Kd.int .i64) 3 w1 w.heap.size (fun _ => True) v1 (A ++ ys)) (hb : Below w.heap.size w w1) (hg : W.grownBy w1 v7.ownBlock) (hat : v1.ownBlock = v7.ownBlock ∨ ∃ b, v1.ownBlock = some b ∧ W.heap.size ≤ b) : R3 w g cs v6 v1 v8 L (A ++ ys) D w1 :=
 ⟨blk_grown p.hd hg (Kd.R_ne p.r7 p.hd (by decide)), keep_row p.r6 (fun k a b => p.n67 k b a) hg, hr, keep_row p.r8 p.n78 hg, fun k a b => ne_of_new p.r6 (fun k a b => p.n67 k b a) hat k b a, p.n68, ne_of_new p.r8 p.n78 hat, hb⟩
theorem R3.app8 {w W w1 : World} {g : Nat} {cs : Array Value} {v6 v7 v8 v1 : Value} {L A D ys : List Int} (p : R3 w g cs v6 v7 v8 L A D W) (hr : Kd.R (Kd.int .i64) 3 w1 w.heap.size (fun _ => True) v1 (D ++ ys)) (hb : Below w.heap.size w w1) (hg : W.grownBy w1 v8.ownBlock) (hat : v1.ownBlock = v8.ownBlock ∨ ∃ b, v1.ownBlock = some b ∧ W.heap.size ≤ b) : R3 w g cs v6 v7 v1 L A (D ++ ys) w1 :=
 ⟨blk_grown p.hd hg (Kd.R_ne p.r8 p.hd (by decide)), keep_row p.r6 (fun k a b => p.n68 k b a) hg, keep_row p.r7 (fun k a b => p.n78 k b a) hg, hr, p.n67, fun k a b => ne_of_new p.r6 (fun k a b => p.n68 k b a) hat k b a, fun k a b => ne_of_new p.r7 (fun k a b => p.n78 k b a) hat k b a, hb⟩
theorem ints_R {W : World} {base g : Nat} (l : List Int) (hg : W.heap[g]? = some (.cells (l.map (Value.int .i64)).toArray 3 (0, 0))) (hb : base ≤ g) (hm : l.length ≤ 9223372036854775807) :
  Kd.R (Kd.int .i64) 3 W base (fun _ => True) (.slice (some ⟨g, 0, none⟩) l.length l.length) l := by
 refine ⟨fun _ _ => trivial, l.map (Value.int .i64), ⟨by simp [Kd.int, Kd.scalar], .inr ⟨g, l.length, _, rfl, hb, hg, Nat.le_refl _, by simpa [maxLen] using hm, by simp [Kd.int, Kd.scalar], by simp only [Kd.int, Kd.scalar, Nat.mul_one]; exact List.take_of_length_le (by simp)⟩⟩, ?_⟩
 refine ⟨by simp [Kd.int, Kd.scalar], fun j p hp => ?_⟩
 obtain ⟨hj, rfl⟩ := List.getElem?_eq_some_iff.1 hp
 show ((l.map (Value.int .i64)).drop (j * 1)).take 1 = [Value.int .i64 l[j]]
 rw [Nat.mul_one, List.drop_eq_getElem_cons (by simpa using hj)]
 simp
theorem lit_C (W : World) (l : List Int) (hm : l.length ≤ 9223372036854775807) : Kd.C (Kd.int .i64) (W.alloc (.cells (l.map (Value.int .i64)).toArray 3)) (some ⟨W.heap.size, 0, none⟩) l.length l :=
 (Kd.R_reads' (ints_R (base := 0) l (row2_alloc W _ _) (Nat.zero_le _) hm)).2.2
def RefNumsPost (h : S31) (bb : Nat) (cur : List Int) (w0 w : World) (e : Ending) (w' : World) : Prop :=
 match refNumsP (refE h) cur with
 | some c => e = .returned (.tuple #[.slice (some ⟨bb, 0, none⟩) 512 512, .bool true]) ∧ Laid w0 w w' bb c
 | none => e = .returned (.tuple #[.slice none 0 0, .bool false]) ∧ Below w0.heap.size w0 w'
theorem refNums_ok {h : S31} {bb : Nat} {cur c : List Int} {w0 w w' : World} (hr : refNumsP (refE h) cur = some c) (hl : Laid w0 w w' bb c) : RefNumsPost h bb cur w0 w (.returned (.tuple #[.slice (some ⟨bb, 0, none⟩) 512 512, .bool true])) w' := by
 unfold RefNumsPost
 rw [hr]
 exact ⟨rfl, hl⟩
theorem refNums_not {h : S31} {bb : Nat} {cur : List Int} {w0 w w' : World} (hr : refNumsP (refE h) cur = none) (hl : Below w0.heap.size w0 w') : RefNumsPost h bb cur w0 w (.returned (.tuple #[.slice none 0 0, .bool false])) w' := by
 unfold RefNumsPost
 rw [hr]
 exact ⟨rfl, hl⟩
theorem refE_bounds (h : S31) (hl : h.f14.length ≤ 4) : (∀ t ∈ refE h, t.2.1 + t.2.2 ≤ 512 ∧ (t.2.2 = 8 ∨ t.2.2 = 12)) ∧ (refE h).length ≤ 16 := by
 have hp : ∀ (xs : List S64) (i : Nat), i + xs.length ≤ 4 → (∀ t ∈ partsE xs i, t.2.1 + t.2.2 ≤ 512 ∧ (t.2.2 = 8 ∨ t.2.2 = 12)) ∧ (partsE xs i).length = 2 * xs.length := by
  intro xs
  induction xs with
  | nil => intro i _; exact ⟨fun t h => (by cases h), rfl⟩
  | cons x xs ih =>
   intro i hi
   rw [List.length_cons] at hi
   have := ih (i + 1) (by omega)
   refine ⟨fun t ht => ?_, by unfold partsE; simp [this.2]; omega⟩
   unfold partsE at ht
   rcases List.mem_cons.1 ht with rfl | ht
   ·exact ⟨by dsimp only; omega, .inr rfl⟩
   rcases List.mem_cons.1 ht with rfl | ht
   ·exact ⟨by dsimp only; omega, .inr rfl⟩
   ·exact this.1 t ht
 have h0 := hp h.f14 0 (by omega)
 have e1 : (∀ t ∈ refE1 h, t.2.1 + t.2.2 ≤ 512 ∧ (t.2.2 = 8 ∨ t.2.2 = 12)) ∧ (refE1 h).length ≤ 7 := by
  unfold refE1 base5E
  split
  ·refine ⟨fun t ht => ?_, by simp⟩
   simp only [List.mem_append, List.mem_cons, List.mem_nil_iff, or_false] at ht
   rcases ht with (rfl | rfl | rfl | rfl | rfl) | rfl | rfl <;> simp
  ·refine ⟨fun t ht => ?_, by simp⟩
   simp only [List.append_nil, List.mem_cons, List.mem_nil_iff, or_false] at ht
   rcases ht with rfl | rfl | rfl | rfl | rfl <;> simp
 unfold refE
 split
 ·refine ⟨fun t ht => ?_, by rw [List.length_append, List.length_cons, h0.2]; omega⟩
  rcases List.mem_append.1 ht with ht | ht
  ·exact e1.1 t ht
  rcases List.mem_cons.1 ht with rfl | ht
  ·simp
  ·exact h0.1 t ht
 ·exact ⟨fun t ht => by rw [List.append_nil] at ht; exact e1.1 t ht, by rw [List.append_nil]; omega⟩
theorem partsE_snoc (x : S64) : ∀ (xs : List S64) (k : Nat), partsE (xs ++ [x]) k = partsE xs k ++ [(x.f0, 386 + 24 * (k + xs.length), 12), (x.f1, 398 + 24 * (k + xs.length), 12)]
 | [], k => rfl
 | y :: ys, k => by
  rw [List.cons_append]
  unfold partsE
  rw [partsE_snoc x ys (k + 1)]
  simp only [List.cons_append, List.length_cons, show k + 1 + ys.length = k + (ys.length + 1) by omega]
def m1 (E : List (Int × Nat × Nat)) : List Int := E.map (fun t => t.1)
def m2 (E : List (Int × Nat × Nat)) : List Int := E.map (fun t => (t.2.1 : Int))
def m3 (E : List (Int × Nat × Nat)) : List Int := E.map (fun t => (t.2.2 : Int))
theorem m1_app (E F : List (Int × Nat × Nat)) : m1 (E ++ F) = m1 E ++ m1 F := by unfold m1; exact List.map_append
theorem m2_app (E F : List (Int × Nat × Nat)) : m2 (E ++ F) = m2 E ++ m2 F := by unfold m2; exact List.map_append
theorem m3_app (E F : List (Int × Nat × Nat)) : m3 (E ++ F) = m3 E ++ m3 F := by unfold m3; exact List.map_append
theorem m1_len (E : List (Int × Nat × Nat)) : (m1 E).length = E.length := List.length_map ..
theorem m2_len (E : List (Int × Nat × Nat)) : (m2 E).length = E.length := List.length_map ..
theorem m3_len (E : List (Int × Nat × Nat)) : (m3 E).length = E.length := List.length_map ..
def R3E (w : World) (g : Nat) (cs : Array Value) (v6 v7 v8 : Value) (E : List (Int × Nat × Nat)) (W : World) : Prop := R3 w g cs v6 v7 v8 (m1 E) (m2 E) (m3 E) W
theorem R3.to {w W : World} {g : Nat} {cs : Array Value} {v6 v7 v8 : Value} {E F : List (Int × Nat × Nat)} {a b c : List Int} (p : R3 w g cs v6 v7 v8 (m1 E ++ a) (m2 E ++ b) (m3 E ++ c) W) (ha : m1 F = a) (hb : m2 F = b) (hc : m3 F = c) : R3E w g cs v6 v7 v8 (E ++ F) W := by
 unfold R3E
 rw [m1_app, m2_app, m3_app, ha, hb, hc]
 exact p
theorem R3.ownNil {w W : World} {g : Nat} {cs : Array Value} {v6 v7 v8 : Value} {E : List (Int × Nat × Nat)} (p : R3E w g cs v6 v7 v8 E W) : R3 w g cs v6 v7 v8 (m1 E) (m2 E) (m3 E) W := p
theorem R3.drew {w W : World} {g : Nat} {cs : Array Value} {v6 v7 v8 : Value} {L A D : List Int} (p : R3 w g cs v6 v7 v8 L A D W) : R3 w g cs v6 v7 v8 L A D W.drew :=
 ⟨p.hd, Kd.R_drew p.r6, Kd.R_drew p.r7, Kd.R_drew p.r8, p.n67, p.n68, p.n78, below_drew p.b⟩
theorem partsE_len : ∀ (xs : List S64) (k : Nat), (partsE xs k).length = 2 * xs.length
 | [], _ => rfl
 | x :: xs, k => by unfold partsE; rw [List.length_cons, List.length_cons, partsE_len xs, List.length_cons]; omega
structure N3 (w0 w : World) (bb : Nat) (v6 v7 v8 : Value) (E : List (Int × Nat × Nat)) (b : List Int) (W : World) : Prop where
 bk : W.heap[bb]? = some (.cells (u8c b).toArray 5 (0, 0))
 r6 : Kd.R (Kd.int .i64) 3 W w.heap.size (fun _ => True) v6 (m1 E)
 r7 : Kd.R (Kd.int .i64) 3 W w.heap.size (fun _ => True) v7 (m2 E)
 r8 : Kd.R (Kd.int .i64) 3 W w.heap.size (fun _ => True) v8 (m3 E)
 rest : ∀ k, k < w.heap.size → k ≠ bb → W.heap[k]? = w.heap[k]?
 size : w.heap.size ≤ W.heap.size
 below : Below w0.heap.size w0 W
theorem N3.up {w0 w W W' : World} {bb : Nat} {v6 v7 v8 : Value} {E : List (Int × Nat × Nat)} {b : List Int} (p : N3 w0 w bb v6 v7 v8 E b W) (hb : Below W.heap.size W W') : N3 w0 w bb v6 v7 v8 E b W' :=
 ⟨blk_below p.bk hb, Kd.R_below p.r6 hb, Kd.R_below p.r7 hb, Kd.R_below p.r8 hb, fun k h1 h2 => (hb.block k (Nat.lt_of_lt_of_le h1 p.size)).trans (p.rest k h1 h2), Nat.le_trans p.size hb.size, below_step p.below hb⟩
theorem N3.drew {w0 w W : World} {bb : Nat} {v6 v7 v8 : Value} {E : List (Int × Nat × Nat)} {b : List Int} (p : N3 w0 w bb v6 v7 v8 E b W) : N3 w0 w bb v6 v7 v8 E b W.drew :=
 ⟨p.bk, Kd.R_drew p.r6, Kd.R_drew p.r7, Kd.R_drew p.r8, p.rest, p.size, below_drew p.below⟩
theorem N3.lay {w0 w W W' : World} {bb : Nat} {v6 v7 v8 : Value} {E : List (Int × Nat × Nat)} {b b' : List Int} (p : N3 w0 w bb v6 v7 v8 E b W) (hg : w0.heap.size ≤ bb) (hL : LaidG W W' bb b') : N3 w0 w bb v6 v7 v8 E b' W' :=
 ⟨hL.bk, Kd.R_grown1 p.r6 rfl hL.grown (Kd.R_ne p.r6 p.bk (by decide)), Kd.R_grown1 p.r7 rfl hL.grown (Kd.R_ne p.r7 p.bk (by decide)), Kd.R_grown1 p.r8 rfl hL.grown (Kd.R_ne p.r8 p.bk (by decide)),
  fun k h1 h2 => (hL.grown.block k (Nat.lt_of_lt_of_le h1 p.size) (fun e => h2 (by injection e))).trans (p.rest k h1 h2), Nat.le_trans p.size hL.grown.size, hL.below p.below hg⟩
set_option maxRecDepth 100000 in
set_option maxHeartbeats 8000000 in
theorem ref_numbers (h : S31) (A14 : Option Addr) (c14 : Nat) (bb : Nat) (cur : List Int) (w0 w : World) (hB : Below w0.heap.size w0 w) (hBb : w0.heap.size ≤ bb) (hbk : w.heap[bb]? = some (.cells (u8c cur).toArray 5 (0, 0))) (hl : Blk cur) (hp : Kd.C k64 w A14 h.f14.length h.f14) (hc : h.f14.length ≤ c14) (h4 : h.f14.length ≤ 4)
  (hi64 : ∀ t ∈ refE h, -9223372036854775808 ≤ t.1 ∧ t.1 ≤ 9223372036854775807) :
  Calls Tryz.prog 42 #[.slice (some ⟨bb, 0, none⟩) 512 512, .agg (cells25 h (.slice A14 h.f14.length c14))] w (RefNumsPost h bb cur w0 w) := by
 have HBB := Aside0.mk hBb
 have HBL := Aside0.mk hl
 have HBK := Aside0.mk hbk
 have HB := Aside0.mk hB
 have HP := Aside0.mk hp
 have HC := Aside0.mk hc
 have HP4 := Aside0.mk h4
 have HEB := Aside0.mk (refE_bounds h h4)
 have HI6 := Aside0.mk hi64
 obtain ⟨n, hn⟩ : ∃ n, n = h.f14.length := ⟨_, rfl⟩
 obtain ⟨cs, hcs⟩ : ∃ cs, cs = cells25 h (.slice A14 n c14) := ⟨_, rfl⟩
 rw [← hn, ← hcs]
 have HN := Aside0.mk hn
 have HCS := Aside0.mk hcs
 clear hB hBb hbk hl hp hc h4 hi64 hn hcs
 go_enter Tryz.func42, Tryz.ntmps42
 go_upto_region 1 with (fail)
 have hgh := row2_alloc w cs 31
 have hb0 := below_alloc (Below.refl w.heap.size w) (.cells cs 31)
 generalize w.alloc (.cells cs 31) = wh at hgh hb0 ⊢
 obtain ⟨gh, hghe⟩ : ∃ n, n = w.heap.size := ⟨_, rfl⟩
 rw [← hghe] at hgh ⊢
 have HGH := Aside0.mk hgh
 rw [HCS.out] at hgh
 have c1 : wh.cell? ⟨gh, 1, none⟩ = some (.int .i64 h.f1) := (blk_cell hgh 1).trans rfl
 have c2 : wh.cell? ⟨gh, 2, none⟩ = some (.int .i64 h.f2) := (blk_cell hgh 2).trans rfl
 have c3 : wh.cell? ⟨gh, 3, none⟩ = some (.int .i64 h.f3) := (blk_cell hgh 3).trans rfl
 have c4 : wh.cell? ⟨gh, 4, none⟩ = some (.int .i64 h.f4) := (blk_cell hgh 4).trans rfl
 have c5 : wh.cell? ⟨gh, 5, none⟩ = some (.int .i64 h.f5) := (blk_cell hgh 5).trans rfl
 have HB0 := Aside0.mk hb0
 have HGE := Aside0.mk hghe
 clear hb0 hghe hgh
 go_upto_region 4 with (fail)
 have ha3 := alloc3 wh ((m1 (base5E h)).map (Value.int .i64)).toArray ((m2 (base5E h)).map (Value.int .i64)).toArray ((m3 (base5E h)).map (Value.int .i64)).toArray 3 3 3
 change Code.wp _ _ _ _ (((wh.alloc (.cells ((m1 (base5E h)).map (Value.int .i64)).toArray 3)).alloc (.cells ((m2 (base5E h)).map (Value.int .i64)).toArray 3)).alloc (.cells ((m3 (base5E h)).map (Value.int .i64)).toArray 3))
 generalize ((wh.alloc (.cells ((m1 (base5E h)).map (Value.int .i64)).toArray 3)).alloc (.cells ((m2 (base5E h)).map (Value.int .i64)).toArray 3)).alloc (.cells ((m3 (base5E h)).map (Value.int .i64)).toArray 3) = w1 at ha3 ⊢
 obtain ⟨gl, hgl⟩ : ∃ n, n = wh.heap.size := ⟨_, rfl⟩
 rw [← hgl] at ha3 ⊢
 obtain ⟨a1, a2, a3, a4⟩ := ha3
 have hb1 := below_step HB0.out (by rw [hgl] at a4; exact a4)
 have hgw : w.heap.size ≤ gl := by rw [hgl]; exact HB0.out.size
 have H1 : Aside0 (R3E w gh cs (.slice (some ⟨gl, 0, none⟩) 5 5) (.slice (some ⟨gl + 1, 0, none⟩) 5 5) (.slice (some ⟨gl + 1 + 1, 0, none⟩) 5 5) (base5E h) w1) :=
  ⟨blk_below HGH.out (by rw [hgl] at a4; exact a4), ints_R (m1 (base5E h)) a1 hgw (by rw [m1_len]; show 5 ≤ 9223372036854775807; decide), ints_R (m2 (base5E h)) a2 (by omega) (by rw [m2_len]; show 5 ≤ 9223372036854775807; decide), ints_R (m3 (base5E h)) a3 (by omega) (by rw [m3_len]; show 5 ≤ 9223372036854775807; decide),
   fun k e1 e2 => by simp [Value.ownBlock] at e1 e2; omega, fun k e1 e2 => by simp [Value.ownBlock] at e1 e2; omega, fun k e1 e2 => by simp [Value.ownBlock] at e1 e2; omega, hb1⟩
 clear a1 a2 a3 a4 hb1 hgw hgl c1 c2 c3 c4 c5 HGH HB0
 generalize Value.slice (some ⟨gl, 0, none⟩) 5 5 = v6 at H1 ⊢
 generalize Value.slice (some ⟨gl + 1, 0, none⟩) 5 5 = v7 at H1 ⊢
 generalize Value.slice (some ⟨gl + 1 + 1, 0, none⟩) 5 5 = v8 at H1 ⊢
 have c8 : w1.cell? ⟨gh, 8, none⟩ = some (.int .i64 h.f8) := (blk_cell H1.out.hd 8).trans (by rw [HCS.out]; rfl)
 have c11 : w1.cell? ⟨gh, 11, none⟩ = some (.int .i64 h.f11) := (blk_cell H1.out.hd 11).trans (by rw [HCS.out]; rfl)
 have c12 : w1.cell? ⟨gh, 12, none⟩ = some (.int .i64 h.f12) := (blk_cell H1.out.hd 12).trans (by rw [HCS.out]; rfl)
 go_upto_if 28 with (fail)
 go_cut [6, 7, 8, 28] from 1 to 0 (fun v6 v7 v8 v28 wx => Aside0 (R3E w gh cs v6 v7 v8 (refE1 h) wx))
 case first =>
  have H1 := Aside0.mk (R3.ownNil H1.out)
  go_wp2_with (first | ((with_reducible refine gate_builtin (b := .append) (xs := #[.tmp 29, .tmp 34]) rfl ?_); at_builtin; have H2q := Aside0.mk (H1.out.up (below_alloc (Below.refl _ _) (.cells ([h.f11, h.f12].map (Value.int .i64)).toArray 3))); refine Kd.R_append_row (Value.int .i64) 0 (h1 := fun _ => rfl) (w0 := w) w.heap.size rfl (.tmp 29) (.tmp 34) 46 3 (.int .i64 0) 8 rfl Tryz.underlying46 info3 rfl (by decide) _ _ [h.f11, h.f12] _ 2 2 (fun _ => True) rfl rfl (fun _ _ => trivial) H2q.out.r6 (lit_C _ [h.f11, h.f12] (by simp)) H2q.out.b H2q.out.b.size ?hl ?_; (case hl => (rw [m1_len]; show (5 + 2) * 8 ≤ 140737488355328; decide)); intro vH2 wH2 hr hb hg hat; have H2 := Aside0.mk (H2q.out.app6 hr hb hg hat); clear hr hb hg hat H2q) | ((with_reducible refine gate_builtin (b := .append) (xs := #[.tmp 36, .tmp 37]) rfl ?_); at_builtin; have H3q := Aside0.mk (H2.out.up (below_alloc (Below.refl _ _) (.cells ([329, 337].map (Value.int .i64)).toArray 3))); refine Kd.R_append_row (Value.int .i64) 0 (h1 := fun _ => rfl) (w0 := w) w.heap.size rfl (.tmp 36) (.tmp 37) 46 3 (.int .i64 0) 8 rfl Tryz.underlying46 info3 rfl (by decide) _ _ [329, 337] _ 2 2 (fun _ => True) rfl rfl (fun _ _ => trivial) H3q.out.r7 (lit_C _ [329, 337] (by simp)) H3q.out.b H3q.out.b.size ?hl ?_; (case hl => (rw [m2_len]; show (5 + 2) * 8 ≤ 140737488355328; decide)); intro vH3 wH3 hr hb hg hat; have H3 := Aside0.mk (H3q.out.app7 hr hb hg hat); clear hr hb hg hat H3q) | ((with_reducible refine gate_builtin (b := .append) (xs := #[.tmp 39, .tmp 40]) rfl ?_); at_builtin; have H4q := Aside0.mk (H3.out.up (below_alloc (Below.refl _ _) (.cells ([8, 8].map (Value.int .i64)).toArray 3))); refine Kd.R_append_row (Value.int .i64) 0 (h1 := fun _ => rfl) (w0 := w) w.heap.size rfl (.tmp 39) (.tmp 40) 46 3 (.int .i64 0) 8 rfl Tryz.underlying46 info3 rfl (by decide) _ _ [8, 8] _ 2 2 (fun _ => True) rfl rfl (fun _ _ => trivial) H4q.out.r8 (lit_C _ [8, 8] (by simp)) H4q.out.b H4q.out.b.size ?hl ?_; (case hl => (rw [m3_len]; show (5 + 2) * 8 ≤ 140737488355328; decide)); intro vH4 wH4 hr hb hg hat; have H4 := Aside0.mk (H4q.out.app8 hr hb hg hat); clear hr hb hg hat H4q))
  ·have h8 : 0 < h.f8 := by assumption
   go_meet
   exact ⟨by unfold refE1; rw [if_pos h8]; exact R3.to H4.out rfl rfl rfl⟩
  ·have h8 : h.f8 ≤ 0 := by assumption
   go_meet
   exact ⟨by unfold refE1; rw [if_neg (by omega), List.append_nil]; exact H1.out⟩
 case rest =>
  have H5 := hcut
  clear H1 hcut c8 c11 c12
  generalize u6 = v6 at H5 ⊢
  generalize u7 = v7 at H5 ⊢
  generalize u8 = v8 at H5 ⊢
  have c6 : wc.cell? ⟨gh, 6, none⟩ = some (.int .u8 h.f6) := (blk_cell H5.out.hd 6).trans (by rw [HCS.out]; rfl)
  have c16 : wc.cell? ⟨gh, 16, none⟩ = some (.int .i64 h.f16) := (blk_cell H5.out.hd 16).trans (by rw [HCS.out]; rfl)
  have HLE : Aside0 ((refE1 h).length ≤ 7) := ⟨by unfold refE1 base5E; split <;> simp⟩
  obtain ⟨P, hP⟩ : ∃ P, P = h.f14 := ⟨_, rfl⟩
  have HPP := Aside0.mk hP
  have HNP : Aside0 (n = P.length) := ⟨by rw [hP]; exact HN.out⟩
  clear hP
  go_upto_if 44 with (fail)
  go_cut [6, 7, 8, 44] from 1 to 0 (fun v6 v7 v8 v44 wx => Aside0 (R3E w gh cs v6 v7 v8 (refE h) wx))
  case first =>
   by_cases h83 : h.f6 = 83
   ·have e83 : (h.f6 == 83) = true := beq_iff_eq.2 h83
    have H83 := Aside0.mk h83
    clear h83
    have H5 := Aside0.mk (R3.ownNil H5.out)
    go_upto_region 12 with (first | ((with_reducible refine gate_builtin (b := .append) (xs := #[.tmp 45, .tmp 48]) rfl ?_); at_builtin; have H6q := Aside0.mk (H5.out.up (below_alloc (Below.refl _ _) (.cells ([h.f16].map (Value.int .i64)).toArray 3))); refine Kd.R_append_row (Value.int .i64) 0 (h1 := fun _ => rfl) (w0 := w) w.heap.size rfl (.tmp 45) (.tmp 48) 46 3 (.int .i64 0) 8 rfl Tryz.underlying46 info3 rfl (by decide) _ _ [h.f16] _ 1 1 (fun _ => True) rfl rfl (fun _ _ => trivial) H6q.out.r6 (lit_C _ [h.f16] (by simp)) H6q.out.b H6q.out.b.size ?hl ?_; (case hl => (rw [m1_len]; have := HLE.out; omega)); intro vH6 wH6 hr hb hg hat; have H6 := Aside0.mk (H6q.out.app6 hr hb hg hat); clear hr hb hg hat H6q) | ((with_reducible refine gate_builtin (b := .append) (xs := #[.tmp 50, .tmp 51]) rfl ?_); at_builtin; have H7q := Aside0.mk (H6.out.up (below_alloc (Below.refl _ _) (.cells ([483].map (Value.int .i64)).toArray 3))); refine Kd.R_append_row (Value.int .i64) 0 (h1 := fun _ => rfl) (w0 := w) w.heap.size rfl (.tmp 50) (.tmp 51) 46 3 (.int .i64 0) 8 rfl Tryz.underlying46 info3 rfl (by decide) _ _ [483] _ 1 1 (fun _ => True) rfl rfl (fun _ _ => trivial) H7q.out.r7 (lit_C _ [483] (by simp)) H7q.out.b H7q.out.b.size ?hl ?_; (case hl => (rw [m2_len]; have := HLE.out; omega)); intro vH7 wH7 hr hb hg hat; have H7 := Aside0.mk (H7q.out.app7 hr hb hg hat); clear hr hb hg hat H7q) | ((with_reducible refine gate_builtin (b := .append) (xs := #[.tmp 53, .tmp 54]) rfl ?_); at_builtin; have H8q := Aside0.mk (H7.out.up (below_alloc (Below.refl _ _) (.cells ([12].map (Value.int .i64)).toArray 3))); refine Kd.R_append_row (Value.int .i64) 0 (h1 := fun _ => rfl) (w0 := w) w.heap.size rfl (.tmp 53) (.tmp 54) 46 3 (.int .i64 0) 8 rfl Tryz.underlying46 info3 rfl (by decide) _ _ [12] _ 1 1 (fun _ => True) rfl rfl (fun _ _ => trivial) H8q.out.r8 (lit_C _ [12] (by simp)) H8q.out.b H8q.out.b.size ?hl ?_; (case hl => (rw [m3_len]; have := HLE.out; omega)); intro vH8 wH8 hr hb hg hat; have H8 := Aside0.mk (H8q.out.app8 hr hb hg hat); clear hr hb hg hat H8q))
    have H9 : Aside0 (R3E w gh cs vH6 vH7 vH8 (refE1 h ++ [(h.f16, 483, 12)] ++ partsE (P.take 0) 0) wH8) := ⟨by rw [List.take_zero]; unfold partsE; rw [List.append_nil]; exact R3.to H8.out rfl rfl rfl⟩
    clear H5 H6 H7 H8 c6 c16 e83
    have c14_ : wH8.cell? ⟨gh, 14, none⟩ = some (.slice A14 n c14) := (blk_cell H9.out.hd 14).trans (by rw [HCS.out]; rfl)
    go_wp2
    clear c14_
    go_loopg [9, 6, 7, 8] n (fun kq v9 v6 v7 v8 wx => ∃ i : Nat, v9 = .int .i64 (i : Int) ∧ Aside0 (i + kq = n) ∧ Aside0 (R3E w gh cs v6 v7 v8 (refE1 h ++ [(h.f16, 483, 12)] ++ partsE (P.take i) 0) wx))
    case atStart => exact ⟨0, rfl, ⟨Nat.zero_add _⟩, H9⟩
    case round =>
     obtain ⟨i, rfl, HI, H5⟩ := hrel
     clear H9
     by_cases hlt : i < n
     ·have hltP : i < P.length := by rw [← HNP.out]; exact hlt
      obtain ⟨pp, hpp⟩ : ∃ p, P[i] = p := ⟨_, rfl⟩
      have hcp : Kd.C k64 w A14 n P := by rw [HNP.out, HPP.out]; exact HP.out
      obtain ⟨ad, hA, hx0, hx1⟩ := at_T64 hcp (i : Int) (by omega) (by omega)
      have erd : rd_T64 P (i : Int) = pp := by unfold rd_T64; rw [← hpp]; simp [hltP]
      rw [erd, Int.toNat_natCast] at hx0 hx1
      have c14_ : wr.cell? ⟨gh, 14, none⟩ = some (.slice (some ad) n c14) := (blk_cell H5.out.hd 14).trans (by rw [HCS.out, hA]; rfl)
      have y0 := pw_cell_below H5.out.b hx0
      have y1 := pw_cell_below H5.out.b hx1
      have p0 : (0 ≤ (i : Int)) = True := eq_true (by omega)
      have q0 : ((i : Int) < (n : Int)) = True := eq_true (by omega)
      have q1 : (i < n) = True := eq_true hlt
      have hmx : (i : Int) ≤ 3 := by have := HP4.out; have := HN.out; omega
      have HLT := Aside0.mk hlt
      have HSN : Aside0 (partsE (P.take (i + 1)) 0 = partsE (P.take i) 0 ++ [(pp.f0, 386 + 24 * i, 12), (pp.f1, 398 + 24 * i, 12)]) := ⟨by
       rw [List.take_succ_eq_append_getElem hltP, hpp, partsE_snoc, List.length_take, Nat.min_eq_left (by omega)]
       simp only [Nat.zero_add]⟩
      have HL2 : Aside0 ((refE1 h ++ [(h.f16, 483, 12)] ++ partsE (P.take i) 0).length ≤ 16) := ⟨by
       rw [List.length_append, List.length_append, partsE_len, List.length_take]
       have := HLE.out
       simp only [List.length_cons, List.length_nil]
       omega⟩
      clear hx0 hx1 hcp erd hlt hltP hpp hA
      obtain ⟨E, hE⟩ : ∃ E, E = refE1 h ++ [(h.f16, 483, 12)] ++ partsE (P.take i) 0 := ⟨_, rfl⟩
      rw [← hE] at H5 HL2
      have HEE := Aside0.mk hE
      clear hE
      go_upto_region 15 with (fail)
      refine wp_region_float 13 76 (fun g => .slice (some ⟨g, 0, none⟩) 2 2) (by kernel_rfl) (by kernel_rfl) (by kernel_rfl) rfl rfl rfl (t := 3) (zs := #[.int .i64 pp.f0, .int .i64 pp.f1]) ?_
      apply Exists.intro
      refine ⟨?_, ?_, ?_⟩
      ·intro W hW
       have hc := fun p : Reach W => pw_cell_below (below_step hW p.below) c14_
       have hy0 := fun p : Reach W => pw_cell_below (below_step hW p.below) y0
       have hy1 := fun p : Reach W => pw_cell_below (below_step hW p.below) y1
       simp only [List.take_succ_cons, List.take_zero]
       repeat (go_big_quiet_step (fail))
       exact wpQuiet_nil rfl
      ·intro a W h
       have h69 := h 69 (by decide)
       have h75 := h 75 (by decide)
       have e69 : a.tmps[69]?.getD undef = .int .i64 pp.f0 := by rw [h69]; rfl
       have e75 : a.tmps[75]?.getD undef = .int .i64 pp.f1 := by rw [h75]; rfl
       simp only [List.getElem_toArray, List.getElem_cons_succ, List.getElem_cons_zero]
       clear h h69 h75
       simp [execOp, go_sem, e69, e75]
       try rfl
      intro wd g9 hW hg9 hbk
      simp only [List.drop_succ_cons, List.drop_zero]
      have HX := Aside0.mk hbk
      have H5 := Aside0.mk ((R3.ownNil H5.out).up hW)
      clear y0 y1 c14_ hW hbk
      go_wp2_with (first | ((with_reducible refine gate_builtin (b := .append) (xs := #[.tmp 63, .tmp 76]) rfl ?_); at_builtin; have H6q := H5; refine Kd.R_append_row (Value.int .i64) 0 (h1 := fun _ => rfl) (w0 := w) w.heap.size rfl (.tmp 63) (.tmp 76) 46 3 (.int .i64 0) 8 rfl Tryz.underlying46 info3 rfl (by decide) _ _ [pp.f0, pp.f1] _ 2 2 (fun _ => True) rfl rfl (fun _ _ => trivial) H6q.out.r6 ((Kd.R_reads' (ints_R (base := 0) [pp.f0, pp.f1] HX.out (Nat.zero_le _) (by simp))).2.2) H6q.out.b H6q.out.b.size ?hl ?_; (case hl => (rw [m1_len]; have := HL2.out; omega)); intro vH6 wH6 hr hb hg hat; have H6 := Aside0.mk (H6q.out.app6 hr hb hg hat); clear hr hb hg hat H6q) | ((with_reducible refine gate_builtin (b := .append) (xs := #[.tmp 78, .tmp 85]) rfl ?_); at_builtin; have H7q := Aside0.mk (H6.out.up (below_alloc (Below.refl _ _) (.cells ([386 + 24 * (i : Int), 398 + 24 * (i : Int)].map (Value.int .i64)).toArray 3))); refine Kd.R_append_row (Value.int .i64) 0 (h1 := fun _ => rfl) (w0 := w) w.heap.size rfl (.tmp 78) (.tmp 85) 46 3 (.int .i64 0) 8 rfl Tryz.underlying46 info3 rfl (by decide) _ _ [386 + 24 * (i : Int), 398 + 24 * (i : Int)] _ 2 2 (fun _ => True) rfl rfl (fun _ _ => trivial) H7q.out.r7 (lit_C _ [386 + 24 * (i : Int), 398 + 24 * (i : Int)] (by simp)) H7q.out.b H7q.out.b.size ?hl ?_; (case hl => (rw [m2_len]; have := HL2.out; omega)); intro vH7 wH7 hr hb hg hat; have H7 := Aside0.mk (H7q.out.app7 hr hb hg hat); clear hr hb hg hat H7q) | ((with_reducible refine gate_builtin (b := .append) (xs := #[.tmp 87, .tmp 88]) rfl ?_); at_builtin; have H8q := Aside0.mk (H7.out.up (below_alloc (Below.refl _ _) (.cells ([12, 12].map (Value.int .i64)).toArray 3))); refine Kd.R_append_row (Value.int .i64) 0 (h1 := fun _ => rfl) (w0 := w) w.heap.size rfl (.tmp 87) (.tmp 88) 46 3 (.int .i64 0) 8 rfl Tryz.underlying46 info3 rfl (by decide) _ _ [12, 12] _ 2 2 (fun _ => True) rfl rfl (fun _ _ => trivial) H8q.out.r8 (lit_C _ [12, 12] (by simp)) H8q.out.b H8q.out.b.size ?hl ?_; (case hl => (rw [m3_len]; have := HL2.out; omega)); intro vH8 wH8 hr hb hg hat; have H8 := Aside0.mk (H8q.out.app8 hr hb hg hat); clear hr hb hg hat H8q))
      have H9 : Aside0 (R3E w gh cs vH6 vH7 vH8 (E ++ [(pp.f0, 386 + 24 * i, 12), (pp.f1, 398 + 24 * i, 12)]) wH8) := ⟨R3.to H8.out rfl (by unfold m2; simp) rfl⟩
      have hi1 := HI.out
      have hlt := HLT.out
      obtain ⟨k1, rfl⟩ : ∃ k1, gk = k1 + 1 := ⟨gk - 1, by omega⟩
      go_roundg k1
      case measure => omega
      case rel => exact ⟨i + 1, by go_num, ⟨by omega⟩, ⟨by rw [HSN.out, ← List.append_assoc, ← HEE.out]; exact H9.out⟩⟩
     ·obtain rfl : i = n := by have := HI.out; omega
      have q0 : ((i : Int) < (i : Int)) = False := eq_false (by omega)
      have c14_ : wr.cell? ⟨gh, 14, none⟩ = some (.slice A14 i c14) := (blk_cell H5.out.hd 14).trans (by rw [HCS.out]; rfl)
      clear hlt
      go_wp2
      go_meet
      exact ⟨by unfold refE; rw [if_pos H83.out, ← HPP.out]; have := H5.out; rw [List.take_of_length_le (by rw [HNP.out]; exact Nat.le_refl _), List.append_assoc] at this; exact this⟩
   ·have e83 : (h.f6 == 83) = false := beq_eq_false_iff_ne.2 h83
    have H83 := Aside0.mk h83
    clear h83
    go_wp2
    go_meet
    exact ⟨by unfold refE; rw [if_neg H83.out, List.append_nil]; exact H5.out⟩
  case rest =>
  have H10 := hcut
  clear hcut H5 c6 c16 HLE HNP HPP
  generalize u6 = v6 at H10 ⊢
  generalize u7 = v7 at H10 ⊢
  generalize u8 = v8 at H10 ⊢
  obtain ⟨E, hE⟩ : ∃ E, E = refE h := ⟨_, rfl⟩
  have HEE := Aside0.mk hE
  rw [← hE] at HEB HI6 H10
  have HN3 : Aside0 (N3 w0 w bb v6 v7 v8 E cur wc) := ⟨⟨blk_below HBK.out H10.out.b, H10.out.r6, H10.out.r7, H10.out.r8, fun k h1 h2 => H10.out.b.block k h1, H10.out.b.size, below_step HB.out H10.out.b⟩⟩
  obtain ⟨m, hm⟩ : ∃ m, m = E.length := ⟨_, rfl⟩
  have HM := Aside0.mk hm
  obtain ⟨A6, c6, hv6⟩ := Kd.R_slice H10.out.r6
  obtain ⟨A7, c7, hv7⟩ := Kd.R_slice H10.out.r7
  obtain ⟨A8, c8, hv8⟩ := Kd.R_slice H10.out.r8
  rw [m1_len, ← hm] at hv6
  rw [m2_len, ← hm] at hv7
  rw [m3_len, ← hm] at hv8
  subst hv6 hv7 hv8
  obtain ⟨R, hR⟩ : ∃ R, R = refNumsP E cur := ⟨_, rfl⟩
  have HR := Aside0.mk hR
  clear H10 hE hm hR
  go_wp2
  go_loopg [10, 0] m (fun kq v10 v0 wx => ∃ (i : Nat) (b : List Int), v10 = .int .i64 (i : Int) ∧ v0 = .slice (some ⟨bb, 0, none⟩) 512 512 ∧ Aside0 (i + kq = m) ∧ Aside0 (refNumsP (E.drop i) b = R) ∧ Aside0 (Blk b) ∧ Aside0 (N3 w0 w bb (.slice A6 m c6) (.slice A7 m c7) (.slice A8 m c8) E b wx))
  case atStart => exact ⟨0, cur, rfl, rfl, ⟨Nat.zero_add _⟩, ⟨HR.out.symm⟩, HBL, HN3⟩
  case round =>
   obtain ⟨i, b, rfl, rfl, HI, HGT, HBLx, HW⟩ := hrel
   clear HN3 HBK HB
   by_cases hlt : i < m
   ·have hltE : i < E.length := by rw [← HM.out]; exact hlt
    obtain ⟨⟨x, at_, wd⟩, ht⟩ : ∃ t, E[i] = t := ⟨_, rfl⟩
    have hmem : (x, at_, wd) ∈ E := by rw [← ht]; exact List.getElem_mem hltE
    have hbd := HEB.out.1 _ hmem
    have hix := HI6.out _ hmem
    dsimp only at hbd hix
    obtain ⟨ad6, e6, f6⟩ := Kd.at_int (Kd.R_reads' HW.out.r6).2.2 (i : Int) (by omega) (by rw [m1_len]; omega)
    obtain ⟨ad7, e7, f7⟩ := Kd.at_int (Kd.R_reads' HW.out.r7).2.2 (i : Int) (by omega) (by rw [m2_len]; omega)
    obtain ⟨ad8, e8, f8⟩ := Kd.at_int (Kd.R_reads' HW.out.r8).2.2 (i : Int) (by omega) (by rw [m3_len]; omega)
    rw [rd_at _ i (by rw [m1_len]; exact hltE), show (m1 E)[i]'(by rw [m1_len]; exact hltE) = x by simp [m1, ht], Int.toNat_natCast] at f6
    rw [rd_at _ i (by rw [m2_len]; exact hltE), show (m2 E)[i]'(by rw [m2_len]; exact hltE) = (at_ : Int) by simp [m2, ht], Int.toNat_natCast] at f7
    rw [rd_at _ i (by rw [m3_len]; exact hltE), show (m3 E)[i]'(by rw [m3_len]; exact hltE) = (wd : Int) by simp [m3, ht], Int.toNat_natCast] at f8
    subst e6 e7 e8
    have p0 : (0 ≤ (i : Int)) = True := eq_true (by omega)
    have q0 : ((i : Int) < (m : Int)) = True := eq_true (by omega)
    have q1 : (i < m) = True := eq_true hlt
    have hmx : (i : Int) ≤ 16 := by have := HEB.out.2; have := HM.out; omega
    obtain ⟨⟨fl, ok⟩, hput⟩ : ∃ p, putF x (wd : Int) = p := ⟨_, rfl⟩
    obtain ⟨kp, hkp⟩ := Ev.rounds (g := fun k => mudlarkref01_Put.f k x (wd : Int)) (RefPut_eq x (wd : Int) hix.1 hix.2)
    rw [hput] at hkp
    have HPC := Aside0.mk (fun W => mudlarkref01_Put.calls kp x (wd : Int) fl ok W hkp)
    have HGT2 : Aside0 (refNumsP ((x, at_, wd) :: E.drop (i + 1)) b = R) := ⟨by rw [← HGT.out, List.drop_eq_getElem_cons hltE, ht]⟩
    have HBD := Aside0.mk hbd
    have HPUT := Aside0.mk hput
    have HX := Aside0.mk hlt
    have HBBW := Aside0.mk (show bb < wr.heap.size from blk_lt HW.out.bk)
    clear ht hmem hbd hix hput hkp hltE HGT hlt
    go_upto_region 21 with (fail)
    go_region_held3 (fun w' => w'.cell? (ad6.add i) = some (.int .i64 x) ∧ w'.cell? (ad7.add i) = some (.int .i64 (at_ : Int)) ∧ w'.cell? (ad8.add i) = some (.int .i64 (wd : Int))) (first | go_keep | exact ⟨k1, k2, k3⟩) ((go_at_call 73; refine (HPC.out _).mono ?_; rintro e w7 ⟨v7, rfl, hR7, hb7⟩; obtain ⟨A7', c7', rfl⟩ := Kd.R_slice hR7; have k1 := pw_cell_below hb7 f6; have k2 := pw_cell_below hb7 f7; have k3 := pw_cell_below hb7 f8; have HB7 := Aside0.mk hb7; have HR7 := Aside0.mk hR7; clear hb7 hR7))
    have HW7 := Aside0.mk ((N3.drew HW.out).up HB7.out)
    have f6 := k1
    have f7 := k2
    clear HW k1 k2 k3 f8
    cases ok with
    | false =>
     have hn : R = none := by rw [← HGT2.out]; unfold refNumsP; rw [if_neg (fun hh => by have := hh.1; rw [HPUT.out] at this; cases this)]
     rw [HR.out, HEE.out] at hn
     have HN := Aside0.mk hn
     clear hn
     go_wp2
     go_ret2
     exact refNums_not HN.out HW7.out.below
    | true =>
     have hple := put_le x (wd : Int) (by rw [HPUT.out])
     have hpo := put_ok x wd HBD.out.2 hple.2 (by rw [HPUT.out])
     rw [HPUT.out] at hpo
     dsimp only at hpo
     have HFL := Aside0.mk hpo
     have HLY := Aside0.mk (ref_lay bb at_ A7' fl.length c7' _ _ b fl w7 HW7.out.bk HBLx.out.len (Kd.R_mono (Kd.R_bound HR7.out) (fun k hk => by have := hk.2.1; have h9 : bb < wr.drew.heap.size := HBBW.out; omega)) (by rw [HFL.out.1]; exact HBD.out.1))
     clear hpo hple
     by_cases hx : x < 0
     ·have q2 : decide (x < 0) = true := decide_eq_true hx
      by_cases ha : at_ = 136
      ·have q3 : ((at_ : Int) != 136) = false := by rw [ha]; rfl
       have HGT3 : Aside0 (refNumsP (E.drop (i + 1)) (splice b at_ fl) = R) := ⟨by rw [← HGT2.out]; conv => rhs; unfold refNumsP; rw [HPUT.out, if_pos ⟨rfl, .inr ha⟩]⟩
       clear hx ha
       go_wp2_with (go_at_call 43; refine HLY.out.mono ?_; rintro e w8 ⟨rfl, L8⟩; have HL8 := Aside0.mk L8; clear L8)
       have hi1 := HI.out
       have hlt := HX.out
       obtain ⟨k1, rfl⟩ : ∃ k1, gk = k1 + 1 := ⟨gk - 1, by omega⟩
       go_roundg k1
       case measure => omega
       case rel => exact ⟨i + 1, splice b at_ fl, by go_num, rfl, ⟨by omega⟩, HGT3, ⟨HBLx.out.splice at_ fl HFL.out.2.1 (by rw [HFL.out.1]; exact HBD.out.1)⟩, ⟨HW7.out.lay HBB.out HL8.out⟩⟩
      ·have q3 : ((at_ : Int) != 136) = true := bne_iff_ne.2 (by omega)
       have hn : R = none := by rw [← HGT2.out]; unfold refNumsP; rw [if_neg (fun hh => by rcases hh.2 with h | h <;> omega)]
       rw [HR.out, HEE.out] at hn
       have HN := Aside0.mk hn
       clear hn hx ha
       go_wp2
       go_ret2
       exact refNums_not HN.out HW7.out.below
     ·have q2 : decide (x < 0) = false := decide_eq_false hx
      have HGT3 : Aside0 (refNumsP (E.drop (i + 1)) (splice b at_ fl) = R) := ⟨by rw [← HGT2.out]; conv => rhs; unfold refNumsP; rw [HPUT.out, if_pos ⟨rfl, .inl (by omega)⟩]⟩
      clear hx
      go_wp2_with (go_at_call 43; refine HLY.out.mono ?_; rintro e w8 ⟨rfl, L8⟩; have HL8 := Aside0.mk L8; clear L8)
      have hi1 := HI.out
      have hlt := HX.out
      obtain ⟨k1, rfl⟩ : ∃ k1, gk = k1 + 1 := ⟨gk - 1, by omega⟩
      go_roundg k1
      case measure => omega
      case rel => exact ⟨i + 1, splice b at_ fl, by go_num, rfl, ⟨by omega⟩, HGT3, ⟨HBLx.out.splice at_ fl HFL.out.2.1 (by rw [HFL.out.1]; exact HBD.out.1)⟩, ⟨HW7.out.lay HBB.out HL8.out⟩⟩
   ·obtain rfl : i = m := by have := HI.out; omega
    have q0 : ((i : Int) < (i : Int)) = False := eq_false (by omega)
    have HRS : Aside0 (refNumsP (refE h) cur = some b) := ⟨by rw [← HEE.out, ← HR.out, ← HGT.out, HM.out, List.drop_length]; rfl⟩
    clear hlt HGT HR HI
    go_wp2
    go_ret2
    exact refNums_ok HRS.out ⟨HW.out.bk, HW.out.rest, HW.out.size, HW.out.below⟩
end Go.Proofs.YtkfcfbggojmfkaaGreatDoor.P
end

section
namespace Go.Proofs.YtkfcfbggojmfkaaGreatDoor.P
open Go Go.RowKit Go.Proofs.YtkfcfbggojmfkaaGreatDoorW.PrintWords Go.Proofs.YtkfcfbggojmfkaaGreatDoorW.PrintLast Go.Proofs.YtkfcfbggojmfkaaGreatDoorW.PrintMore
set_option linter.unusedVariables false
set_option linter.unusedSimpArgs false

theorem refKnown_eq (x : Int) : mudlarkref08_Known.f x = some (knownB x) := by
 unfold mudlarkref08_Known.f knownB
 by_cases h1 : x ≥ 48
 ·by_cases h2 : x ≤ 55
  ·simp [h1, h2]
  ·rw [if_pos h1, if_neg h2]
   repeat' split
   all_goals first | (simp [*]; done) | (simp [*]; rfl)
 ·have h1' : decide (48 ≤ x) = false := decide_eq_false h1
  rw [if_neg h1, h1']
  repeat' split
  all_goals first | (simp [*]; done) | (simp [*]; rfl)
section
variable {P : Program} {ops : Array Oper} {o : Oper} {a : Act} {Q : Exit → Act → World → Prop} {Kc : Act → World → Prop}
theorem make_bytes_step {W : World} (hw : Region.wanted o (yielded ops a.tmps) = true) (N : Option Tmp) (hN : o.dst = N) (t : TypeId) (x y : Operand) (ho : o.op = .makeSlice t x y) (n : Nat) (hx : a.eval x = .int .i64 (n : Int)) (hy : a.eval y = .int .i64 (n : Int)) (e : TypeId)
  (ht : P.underlying t = some (.slice e)) (hinfo : (P.info? e).map (fun i => (i.zero, i.size, i.bytes)) = some (some (.int .u8 0), 1, 1)) (hl : n ≤ 281474976710656)
  (h : ∀ g, g = W.heap.size → ∀ w1, w1.heap[g]? = some (.cells (u8c (List.replicate n 0)).toArray e (0, 0)) → Below W.heap.size W w1 → Kc (a.put N (.slice (some ⟨g, 0, none⟩) n n)) w1) : if Region.wanted o (yielded ops a.tmps) = true then Oper.wp P o a W Kc Q else Kc (a.put N undef) W := by
 obtain ⟨i0, hi, hzz⟩ := Option.map_eq_some_iff.1 hinfo
 simp only [Prod.mk.injEq] at hzz
 obtain ⟨hz0, hz1, hz2⟩ := hzz
 have hr := run_make (P := P) W t e i0 (.int .u8 0) ht hi hz0 .i64 .i64 (n : Int) (n : Int) (by omega) (by omega) (by rw [hz2]; omega) (by omega)
 simp only [Int.toNat_natCast] at hr
 rw [hz1, Nat.mul_one] at hr
 have hrun : (execOp a.eval o).run P W = .ok (.value (.slice (some ⟨W.heap.size, 0, none⟩) n n)) (W.alloc (.cells (u8c (List.replicate n 0)).toArray e (0, 0))) := by
  have hm : madeCells (Value.int .u8 0).cells n = (u8c (List.replicate n 0)).toArray := by
   apply Array.toList_inj.1
   rw [show (Value.int .u8 0).cells = #[Value.int .u8 0] from rfl, toList_madeCells_one]
   simp [u8c]
  rw [hm] at hr
  simp [execOp, ho, hx, hy, hr]
 subst hN
 exact event_step hw hrun (h _ rfl _ (blk_new W _) (below_alloc (Below.refl _ _) _))
end
theorem printO_of {h : S31} {b c : List Int} (h1 : headKB h = true) (h2 : textsP h (textsL 1) (List.replicate 512 0) = some b) (h3 : fitsB h = true) (h4 : refNumsP (refE h) b = some c) : printO h = .ok (sealF (finB h c)) := by
 have hf := fitsB_head h3
 have hfb := hf.1
 have hw : 0 ≤ h.f8 ∧ h.f14.length ≤ 4 ∧ (h.f6 = 83 ∨ h.f14 = []) := by
  unfold headFB bareB bareS at hfb
  simp only [Bool.and_eq_true, Bool.or_eq_true, decide_eq_true_eq, beq_iff_eq] at hfb
  obtain ⟨⟨⟨⟨g1, g2⟩, g3, g4⟩, g5⟩, g6⟩ := hfb
  refine ⟨g1, g5, ?_⟩
  rcases g4 with g4 | g4
  ·exact .inl g4
  ·exact .inr (List.eq_nil_of_length_eq_zero g4.1.1)
 obtain ⟨d, hd1, hd2⟩ := refE_nums h4 hw.1 hf.2.1 hf.2.2 hw.2.1 hw.2.2
 exact po_all h1 h2 hf.1 hd1 hd2
theorem refE_I64 {h : S31} (hk : HdOk h) : ∀ t ∈ refE h, -9223372036854775808 ≤ t.1 ∧ t.1 ≤ 9223372036854775807 := by
 have hp : ∀ (xs : List S64) (i : Nat), (∀ x ∈ xs, I64 x.f0 ∧ I64 x.f1) → ∀ t ∈ partsE xs i, I64 t.1 := by
  intro xs
  induction xs with
  | nil => intro i _ t ht; cases ht
  | cons x xs ih =>
   intro i hx t ht
   unfold partsE at ht
   rcases List.mem_cons.1 ht with rfl | ht
   ·exact (hx x (by simp)).1
   rcases List.mem_cons.1 ht with rfl | ht
   ·exact (hx x (by simp)).2
   ·exact ih (i + 1) (fun y hy => hx y (by simp [hy])) t ht
 intro t ht
 unfold refE refE1 base5E at ht
 simp only [List.mem_append, List.mem_cons, List.mem_nil_iff, or_false] at ht
 rcases ht with ((rfl | rfl | rfl | rfl | rfl) | ht) | ht
 ·exact hk.n1
 ·exact hk.n2
 ·exact hk.n3
 ·exact hk.n4
 ·exact hk.n5
 ·split at ht
  ·simp only [List.mem_cons, List.mem_nil_iff, or_false] at ht
   rcases ht with rfl | rfl
   ·exact hk.n11
   ·exact hk.n12
  ·cases ht
 ·split at ht
  ·rcases List.mem_cons.1 ht with rfl | ht
   ·exact hk.n16
   ·exact hp _ 0 hk.parts t ht
  ·cases ht
theorem txt_small {h : S31} (hk : HdOk h) (idx : Nat) : (txtOf h idx).size ≤ 4294967296 := by
 have := hk.s0; have := hk.s7; have := hk.s9; have := hk.s10; have := hk.s13
 unfold txtOf
 split
 ·omega
 ·split
  ·omega
  ·split
   ·omega
   ·split <;> omega
def RefPrintPost (h : S31) (w : World) (e : Ending) (w' : World) : Prop :=
 ∃ (v : Value) (n : Int), e = .returned (.tuple #[v, .int .i64 n]) ∧ Aside0 ((n = 0 ∧ ∃ l, printO h = .ok l ∧ Kd.R (Kd.int .u8) 5 w' w.heap.size (fun _ => True) v l) ∨ (¬ n = 0 ∧ v = .slice none 0 0)) ∧ Below w.heap.size w w'
theorem refTexts_any {h : S31} {bb : Nat} {cur : List Int} {w0 w w' : World} {e : Ending} (hp : RefTextsPost h bb cur w0 w e w') : ∃ (v : Value) (ok : Bool), e = .returned (.tuple #[v, .bool ok]) ∧ Aside0 ((ok = true ∧ ∃ c, textsP h (textsL 1) cur = some c ∧ v = .slice (some ⟨bb, 0, none⟩) 512 512 ∧ Laid w0 w w' bb c) ∨ (ok = false)) := by
 unfold RefTextsPost at hp
 cases hr : textsP h (textsL 1) cur with
 | none => rw [hr] at hp; exact ⟨_, _, hp.1, ⟨.inr rfl⟩⟩
 | some c => rw [hr] at hp; exact ⟨_, _, hp.1, ⟨.inl ⟨rfl, c, rfl, rfl, hp.2⟩⟩⟩
theorem refTexts_below {h : S31} {bb : Nat} {cur : List Int} {w0 w w' : World} {e : Ending} (hp : RefTextsPost h bb cur w0 w e w') : Below w0.heap.size w0 w' := by
 unfold RefTextsPost at hp
 split at hp
 ·exact hp.2.below
 ·exact hp.2
theorem refNums_any {h : S31} {bb : Nat} {cur : List Int} {w0 w w' : World} {e : Ending} (hp : RefNumsPost h bb cur w0 w e w') : ∃ (v : Value) (ok : Bool), e = .returned (.tuple #[v, .bool ok]) ∧ Aside0 ((ok = true ∧ ∃ c, refNumsP (refE h) cur = some c ∧ v = .slice (some ⟨bb, 0, none⟩) 512 512 ∧ Laid w0 w w' bb c) ∨ (ok = false)) := by
 unfold RefNumsPost at hp
 cases hr : refNumsP (refE h) cur with
 | none => rw [hr] at hp; exact ⟨_, _, hp.1, ⟨.inr rfl⟩⟩
 | some c => rw [hr] at hp; exact ⟨_, _, hp.1, ⟨.inl ⟨rfl, c, rfl, rfl, hp.2⟩⟩⟩
theorem refNums_below {h : S31} {bb : Nat} {cur : List Int} {w0 w w' : World} {e : Ending} (hp : RefNumsPost h bb cur w0 w e w') : Below w0.heap.size w0 w' := by
 unfold RefNumsPost at hp
 split at hp
 ·exact hp.2.below
 ·exact hp.2
theorem refNumsP_blk : ∀ (E : List (Int × Nat × Nat)) (b c : List Int), refNumsP E b = some c → Blk b → (∀ t ∈ E, t.2.1 + t.2.2 ≤ 512 ∧ (t.2.2 = 8 ∨ t.2.2 = 12)) → Blk c
 | [], b, c, h, hb, _ => by cases h; exact hb
 | (x, at_, wd) :: r, b, c, h, hb, he => by
  unfold refNumsP at h
  split at h
  ·rename_i h0
   have h1 := he (x, at_, wd) (by simp)
   dsimp only at h1
   have hp := put_ok x wd h1.2 (put_le _ _ h0.1).2 h0.1
   exact refNumsP_blk r _ c h (hb.splice at_ _ hp.2.1 (by rw [hp.1]; exact h1.1)) (fun t ht => he t (by simp [ht]))
  ·cases h
theorem refNums_blk {h : S31} {b c : List Int} (e : refNumsP (refE h) b = some c) (hb : Blk b) (hl : h.f14.length ≤ 4) : Blk c := refNumsP_blk _ b c e hb (refE_bounds h hl).1
theorem fitsB_shape {h : S31} (e : fitsB h = true) : (h.f8 = 0 ∨ h.f8 = 1 ∨ h.f8 = 2) ∧ h.f14.length ≤ 4 := by
 have hf := (fitsB_head e).1
 unfold headFB at hf
 simp only [Bool.and_eq_true, decide_eq_true_eq] at hf
 obtain ⟨⟨⟨⟨g1, g2⟩, _⟩, g5⟩, _⟩ := hf
 exact ⟨by omega, g5⟩
theorem u8c_set (l : List Int) (i : Nat) (x : Int) : (u8c l).toArray.setIfInBounds i (.int .u8 x) = (u8c (l.set i x)).toArray := by unfold u8c; simp
theorem blk_rd {w : World} {bb : Nat} {l : List Int} (hbk : w.heap[bb]? = some (.cells (u8c l).toArray 5 (0, 0))) (hl : l.length = 512) (i : Nat) (hi : i < 512) : w.cell? ⟨bb, i, none⟩ = some (.int .u8 (rd l (i : Int))) := by
 refine (blk_cell hbk i).trans ?_
 rw [rd_at _ _ (by omega)]
 unfold u8c
 simp [hl, hi]
theorem ref_seal_own (l : List Int) (hl : Blk l) (bb : Nat) (W : World) (hbk : W.heap[bb]? = some (.cells (u8c l).toArray 5 (0, 0))) :
  Calls Tryz.prog 21 #[.slice (some ⟨bb, 0, none⟩) 512 512] W fun e w' => ∃ v, e = .returned v ∧ Kd.R (Kd.int .u8) 5 w' W.heap.size (fun _ => True) v (sealF l) ∧ Below W.heap.size W w' := by
 have hR := row_R (base := 0) l hbk (Nat.zero_le _) (by rw [hl.len]; decide)
 have hC := (Kd.R_reads' hR).2.2
 obtain ⟨k, hk⟩ := RefSeal_eq l hl.bytes (by rw [hl.len]; decide)
 have h := mudlarkref05_Seal.calls k (some ⟨bb, 0, none⟩) 512 l (sealF l) W hC (by rw [hl.len]; exact Nat.le_refl _) (hk k (Nat.le_refl _))
 rw [hl.len] at h
 exact h
set_option maxRecDepth 100000 in
set_option maxHeartbeats 8000000 in
theorem ref_print_calls (h : S31) (A14 : Option Addr) (c14 : Nat) (w : World) (hp : Kd.C k64 w A14 h.f14.length h.f14) (hc : h.f14.length ≤ c14) (hk : HdOk h) :
  Calls Tryz.prog 19 #[.agg (cells25 h (.slice A14 h.f14.length c14))] w (RefPrintPost h w) := by
 have HP := Aside0.mk hp
 have HC := Aside0.mk hc
 have HO := Aside0.mk hk
 obtain ⟨cs, hcs⟩ : ∃ cs, cs = cells25 h (.slice A14 h.f14.length c14) := ⟨_, rfl⟩
 have HCS := Aside0.mk hcs
 have HSZ := Aside0.mk (show cs.size = 17 by rw [hcs]; rfl)
 rw [← hcs]
 clear hp hc hk hcs
 go_enter Tryz.func19, Tryz.ntmps19
 go_upto_region 1 with (fail)
 have hgh := row2_alloc w cs 31
 have hb0 := below_alloc (Below.refl w.heap.size w) (.cells cs 31)
 generalize w.alloc (.cells cs 31) = wh at hgh hb0 ⊢
 obtain ⟨gh, hghe⟩ : ∃ n, n = w.heap.size := ⟨_, rfl⟩
 rw [← hghe] at hgh ⊢
 have HGE := Aside0.mk hghe
 have hc6 : wh.cell? ⟨gh, 6, none⟩ = some (.int .u8 h.f6) := (blk_cell hgh 6).trans (by rw [HCS.out]; rfl)
 have hc8 : wh.cell? ⟨gh, 8, none⟩ = some (.int .i64 h.f8) := (blk_cell hgh 8).trans (by rw [HCS.out]; rfl)
 have HGH := Aside0.mk hgh
 have HB0 := Aside0.mk hb0
 have HKC := Aside0.mk (fun W => mudlarkref08_Known.calls h.f6 _ W (refKnown_eq h.f6))
 clear hgh hb0 hghe
 go_cut [21] from 1 to 0 (fun v21 wx => v21 = .bool (!headKB h) ∧ Aside0 (wx.heap[gh]? = some (.cells cs 31 (0, 0))) ∧ Aside0 (Below w.heap.size w wx))
 case first =>
  have HKB : Aside0 ((!headKB h) = !(knownB h.f6 && (!(h.f6 == 83) || (h.f8 == 2)))) := ⟨rfl⟩
  cases hkn : knownB h.f6 with
  | false =>
   rw [hkn] at HKC HKB
   clear hkn
   go_wp2_with (first | (go_at_call 9; refine (HKC.out _).mono ?_; rintro e w1 ⟨rfl, hd1⟩; have hb1 := drawn_below hd1; have HB1 := Aside0.mk (below_step HB0.out hb1); have hc6a := pw_cell_below hb1 hc6; have hc8a := pw_cell_below hb1 hc8; have HGHa := Aside0.mk (blk_below HGH.out hb1); clear hb1 hd1))
   go_meet
   exact ⟨by rw [HKB.out]; rfl, HGHa, HB1⟩
  | true =>
   rw [hkn] at HKC HKB
   clear hkn
   by_cases h83 : h.f6 = 83
   ·have e83 : (h.f6 == 83) = true := beq_iff_eq.2 h83
    by_cases h2 : h.f8 = 2
    ·have e2 : (h.f8 != 2) = false := by rw [h2]; rfl
     have e2' : (h.f8 == 2) = true := beq_iff_eq.2 h2
     clear h83 h2
     go_wp2_with (first | (go_at_call 9; refine (HKC.out _).mono ?_; rintro e w1 ⟨rfl, hd1⟩; have hb1 := drawn_below hd1; have HB1 := Aside0.mk (below_step HB0.out hb1); have hc6a := pw_cell_below hb1 hc6; have hc8a := pw_cell_below hb1 hc8; have HGHa := Aside0.mk (blk_below HGH.out hb1); clear hb1 hd1))
     go_meet
     exact ⟨by rw [HKB.out, e83, e2']; rfl, HGHa, HB1⟩
    ·have e2 : (h.f8 != 2) = true := bne_iff_ne.2 h2
     have e2' : (h.f8 == 2) = false := beq_eq_false_iff_ne.2 h2
     clear h83 h2
     go_wp2_with (first | (go_at_call 9; refine (HKC.out _).mono ?_; rintro e w1 ⟨rfl, hd1⟩; have hb1 := drawn_below hd1; have HB1 := Aside0.mk (below_step HB0.out hb1); have hc6a := pw_cell_below hb1 hc6; have hc8a := pw_cell_below hb1 hc8; have HGHa := Aside0.mk (blk_below HGH.out hb1); clear hb1 hd1))
     go_meet
     exact ⟨by rw [HKB.out, e83, e2']; rfl, HGHa, HB1⟩
   ·have e83 : (h.f6 == 83) = false := beq_eq_false_iff_ne.2 h83
    clear h83
    go_wp2_with (first | (go_at_call 9; refine (HKC.out _).mono ?_; rintro e w1 ⟨rfl, hd1⟩; have hb1 := drawn_below hd1; have HB1 := Aside0.mk (below_step HB0.out hb1); have hc6a := pw_cell_below hb1 hc6; have hc8a := pw_cell_below hb1 hc8; have HGHa := Aside0.mk (blk_below HGH.out hb1); clear hb1 hd1))
    go_meet
    exact ⟨by rw [HKB.out, e83]; rfl, HGHa, HB1⟩
 case rest =>
  obtain ⟨rfl, HGH, HB⟩ := hcut
  clear HB0 HKC
  cases hkb : headKB h with
  | false =>
   go_wp2
   go_ret2
   exact ⟨_, _, rfl, ⟨.inr ⟨by decide, rfl⟩⟩, HB.out⟩
  | true =>
   have HKB := Aside0.mk hkb
   clear hkb
   go_upto_region 3 with (fail)
   refine start_ (n := 8) (S := fun w' => w'.heap[gh]? = some (.cells cs 31 (0, 0)) ∧ Below wc.heap.size wc w') (ds := []) #[false, false, false, false, false, false, false, false] (by kernel_rfl) rfl rfl ⟨HGH.out, below_drew (Below.refl _ _)⟩ (fun hHeld => ?_)
   refine take_ (i := 1) (N := some 24) (v := .agg cs) #[false, true, false, false, false, false, false, false] rfl rfl (by kernel_rfl) (fun _ _ _ h => h) (Or.inl ⟨by rfl, ?hy⟩) hHeld rfl ?h
   case hy =>
    intro w' hS
    have := load_header gh cs w' HSZ.out hS.1
    simp [execOp, Act.eval]
    rw [show Instr.loadAt 31 (.pointer (some ⟨gh, 0, none⟩)) = loadVar 31 ⟨gh, 0, none⟩ from rfl, this]
    rfl
   simp only [Act.put, List.setIfInBounds_toArray, List.set_cons_zero, List.set_cons_succ]
   refine one_ (i := 0) (N := some 23) #[true, true, false, false, false, false, false, false] rfl rfl (by kernel_rfl) (by decide) (fun K hK => ?_)
   refine make_bytes_step (by rfl) (some 23) rfl 22 (.const (.int .i64 512)) (.const (.int .i64 512)) rfl 512 rfl rfl 5 Tryz.underlying22 info5 (by decide) ?_
   intro bb hbb w2 hbk hb2
   have HBK := Aside0.mk hbk
   have HB2 := Aside0.mk (below_step hHeld.2 hb2)
   have HG2 := Aside0.mk (blk_below hHeld.1 hb2)
   have HGB := Aside0.mk (show gh < bb by rw [hbb]; exact blk_lt hHeld.1)
   clear hbk hb2
   refine hK.out _ _ ⟨HG2.out, HB2.out⟩ (fun hHeld => ?_)
   clear hK K
   simp only [Act.put, List.setIfInBounds_toArray, List.set_cons_zero, List.set_cons_succ]
   have HBC := Aside0.mk (show wc.heap.size ≤ bb by rw [hbb]; exact Nat.le_refl _)
   have HTX := Aside0.mk (ref_texts h (.slice A14 h.f14.length c14) bb (List.replicate 512 0) wc w2 HB2.out HBC.out HBK.out Blk.zero (txt_small HO.out))
   rw [← HCS.out] at HTX
   clear hHeld
   refine one_ (i := 2) (N := some 25) #[true, true, true, false, false, false, false, false] rfl rfl (by kernel_rfl) (by decide) (fun K hK => ?_)
   refine goes_ Tryz.func40 (by kernel_rfl) rfl #[.slice (some ⟨bb, 0, none⟩) 512 512, .agg cs] (by rfl) rfl rfl (by simp only [List.map_toArray, List.map_cons, List.map_nil]; rfl) ?_
   refine HTX.out.mono ?_
   rintro e w4 hpost
   obtain ⟨v4, ok4, rfl, HV4⟩ := refTexts_any hpost
   refine ⟨_, rfl, ?_⟩
   have HB4 := Aside0.mk (refTexts_below hpost)
   have HG4 := Aside0.mk (blk_below HGH.out HB4.out)
   clear hpost HTX
   refine hK.out _ _ ⟨HG4.out, HB4.out⟩ (fun hHeld => ?_)
   clear hK K hHeld
   simp only [Act.put, List.setIfInBounds_toArray, List.set_cons_zero, List.set_cons_succ]
   refine pure_ (i := 3) (N := some 22) (v := .tuple #[v4, .bool ok4]) #[true, true, true, true, false, false, false, false] rfl rfl (by kernel_rfl) (fun _ _ _ h => h) (Or.inl ⟨by rfl, by intro w'; go_simp⟩) rfl ?_
   simp only [Act.put, List.setIfInBounds_toArray, List.set_cons_zero, List.set_cons_succ]
   refine pure_ (i := 4) (N := some 26) (v := v4) #[true, true, true, true, true, false, false, false] rfl rfl (by kernel_rfl) (fun _ _ _ h => h) (Or.inl ⟨by rfl, by intro w'; go_simp⟩) rfl ?_
   simp only [Act.put, List.setIfInBounds_toArray, List.set_cons_zero, List.set_cons_succ]
   refine pure_ (i := 5) (N := some 27) (v := .bool ok4) #[true, true, true, true, true, true, false, false] rfl rfl (by kernel_rfl) (fun _ _ _ h => h) (Or.inl ⟨by rfl, by intro w'; go_simp⟩) rfl ?_
   simp only [Act.put, List.setIfInBounds_toArray, List.set_cons_zero, List.set_cons_succ]
   refine pure_ (i := 6) (N := some 4) (v := v4) #[true, true, true, true, true, true, true, false] rfl rfl (by kernel_rfl) (fun _ _ _ h => h) (Or.inl ⟨by rfl, by intro w'; go_simp⟩) rfl ?_
   simp only [Act.put, List.setIfInBounds_toArray, List.set_cons_zero, List.set_cons_succ]
   refine pure_ (i := 7) (N := some 5) (v := .bool ok4) #[true, true, true, true, true, true, true, true] rfl rfl (by kernel_rfl) (fun _ _ _ h => h) (Or.inl ⟨by rfl, by intro w'; go_simp⟩) rfl ?_
   simp only [Act.put, List.setIfInBounds_toArray, List.set_cons_zero, List.set_cons_succ]
   refine done_ (by kernel_rfl) ?_
   clear HBK HB2 HG2 hHeld hbb
   rcases HV4.out with ⟨rfl, b1, ht, rfl, L4⟩ | rfl
   ·have HTE := Aside0.mk ht
    have HL4 := Aside0.mk L4
    have HB1 := Aside0.mk (textsP_blk h _ _ _ ht Blk.zero textsL_txt)
    have HFC := Aside0.mk (fun (W : World) (hb : Below w.heap.size w W) => HCS.out ▸ ref_fits h A14 c14 W (Kd.C_below HP.out hb) HC.out)
    clear ht L4 HV4
    cases hfit : fitsB h with
    | false =>
     rw [hfit] at HFC
     clear hfit
     go_wp2_with (first | (refine wpList_load_row rfl 31 _ rfl gh rfl 31 cs (0, 0) _ HG4.out Tryz.underlying31 rfl (by rw [HSZ.out]; kernel_rfl) ?_) | (go_at_call 41; refine (HFC.out _ (below_step HB.out HB4.out)).mono ?_; rintro e w5 ⟨rfl, hb5⟩; have HB5 := Aside0.mk (below_step HB4.out hb5); clear hb5))
     go_ret2
     exact ⟨_, _, rfl, ⟨.inr ⟨by decide, rfl⟩⟩, below_step HB.out HB5.out⟩
    | true =>
     rw [hfit] at HFC
     have HFB := Aside0.mk hfit
     clear hfit
     go_upto_region 8 with (first | (refine wpList_load_row rfl 31 _ rfl gh rfl 31 cs (0, 0) _ HG4.out Tryz.underlying31 rfl (by rw [HSZ.out]; kernel_rfl) ?_) | (go_at_call 41; refine (HFC.out _ (below_step HB.out HB4.out)).mono ?_; rintro e w5 ⟨rfl, hb5⟩; have HB5 := Aside0.mk (below_step HB4.out hb5); have HG5 := Aside0.mk (blk_below HG4.out hb5); have HK5 := Aside0.mk (blk_below HL4.out.bk hb5); clear hb5))
     have HH4 := Aside0.mk (fitsB_shape HFB.out)
     have HNUM := Aside0.mk (ref_numbers h A14 c14 bb b1 wc w5 HB5.out HBC.out HK5.out HB1.out (Kd.C_below HP.out (below_step HB.out HB5.out)) HC.out HH4.out.2 (refE_I64 HO.out))
     rw [← HCS.out] at HNUM
     clear HFC HL4 HB4 HG4 HK5
     go_upto_region 9 with (first | (refine wpList_load_row rfl 31 _ rfl gh rfl 31 cs (0, 0) _ HG5.out Tryz.underlying31 rfl (by rw [HSZ.out]; kernel_rfl) ?_) | (go_at_call 42; refine HNUM.out.mono ?_; rintro e w6 hpost; obtain ⟨v6, ok6, rfl, HV6⟩ := refNums_any hpost; have HB6 := Aside0.mk (refNums_below hpost); have HG6 := Aside0.mk (blk_below HGH.out HB6.out); clear hpost))
     clear HNUM HG5 HB5
     rcases HV6.out with ⟨rfl, b2, ht, rfl, L6⟩ | rfl
     ·have HPO := Aside0.mk (printO_of HKB.out HTE.out HFB.out ht)
      have HK6 := Aside0.mk L6.bk
      have HB2 := Aside0.mk (refNums_blk ht HB1.out HH4.out.2)
      clear ht L6 HV6 HTE
      have c6 : w6.cell? ⟨gh, 6, none⟩ = some (.int .u8 h.f6) := (blk_cell HG6.out 6).trans (by rw [HCS.out]; rfl)
      have x156 : w6.cell? ⟨bb, 156, none⟩ = some (.int .u8 (rd b2 156)) := blk_rd HK6.out HB2.out.len 156 (by decide)
      have y156 := blk_frozen HK6.out 156
      go_upto_region 12 with (fail)
      have hk7 := blk_set HK6.out 156 (.int .u8 h.f6)
      rw [u8c_set] at hk7
      have hg7 := blk_far (p := ⟨bb, 156, none⟩) HG6.out (Nat.ne_of_lt HGB.out) (.int .u8 h.f6)
      have hb7 := below_set (j := 156) (v := .int .u8 h.f6) HB6.out HBC.out
      generalize World.setCell _ _ _ = w7 at hk7 hg7 hb7 ⊢
      have HB3 := Aside0.mk (HB2.out.set 156 h.f6 HO.out.k)
      have HK7 := Aside0.mk hk7
      have HG7 := Aside0.mk hg7
      have HB7 := Aside0.mk hb7
      have c8 : w7.cell? ⟨gh, 8, none⟩ = some (.int .i64 h.f8) := (blk_cell hg7 8).trans (by rw [HCS.out]; rfl)
      clear hk7 hg7 hb7 c6 x156 y156 HK6 HG6 HB6
      have HML := Aside0.mk (magic_len h.f8)
      obtain ⟨ms, hms⟩ : ∃ s, s = magicB h.f8 := ⟨_, rfl⟩
      have HMG := Aside0.mk (ref_magic h.f8 HH4.out.1)
      rw [← hms] at HMG HML
      have HMS := Aside0.mk hms
      have HMZ : Aside0 (ms.size = 8) := ⟨by rw [← HML.out, numsL_length]⟩
      clear hms
      go_upto_region 13 with (first | (go_at_call 39; refine (HMG.out _).mono ?_; rintro e w8 ⟨rfl, hb8⟩; have HK8 := Aside0.mk (blk_below HK7.out hb8); have HG8 := Aside0.mk (blk_below HG7.out hb8); have HB8 := Aside0.mk (below_step HB7.out hb8); clear hb8; have hcb := Go.Lib.run_convert_string_bytes (P := Tryz.prog) w8 9 22 5 ms Tryz.underlying9 Tryz.underlying22 Tryz.underlying5) | (go_at_call 43; refine (ref_layC bb 257 _ _ _ _ (numsL ms) _ (blk_below HK8.out (bytes_below _ _)) HB3.out.len (by rw [numsL_length]) (bytes_C _ _ bb (blk_lt HK8.out) (by have := HMZ.out; omega)) (by have := HML.out; omega)).mono ?_; rintro e w9 ⟨rfl, L9⟩; have HL9 := Aside0.mk L9; clear L9))
      have HB9 := Aside0.mk (HL9.out.below (below_step HB8.out (bytes_below w8 ms)) HBC.out)
      have HG9 := Aside0.mk (blk_grown (blk_below HG8.out (bytes_below w8 ms)) HL9.out.grown (fun e => by injection e with e; have := HGB.out; omega))
      have HK9 := Aside0.mk HL9.out.bk
      have HBK9 := Aside0.mk (HB3.out.splice 257 (numsL ms) (numsL_byte ms) (by have := HML.out; omega))
      obtain ⟨b3, hb3⟩ : ∃ b, b = splice (b2.set 156 h.f6) 257 (numsL ms) := ⟨_, rfl⟩
      rw [← hb3] at HK9 HBK9
      have HE3 := Aside0.mk hb3
      have c15 : w9.cell? ⟨gh, 15, none⟩ = some (.bool h.f15) := (blk_cell HG9.out 15).trans (by rw [HCS.out]; rfl)
      clear HL9 HK8 HG8 HB8 HK7 HG7 HB7 hcb hb3 c8 HMG HML HMZ
      cases h15 : h.f15 with
      | false =>
       rw [h15] at c15
       have HFN : Aside0 (finB h b2 = b3) := ⟨by unfold finB; rw [h15, if_neg (by decide), HE3.out, HMS.out]⟩
       have HSC := Aside0.mk (ref_seal_own b3 HBK9.out bb w9 HK9.out)
       clear h15
       go_wp2_with (go_at_call 21; refine HSC.out.mono ?_; rintro e w10 ⟨v10, rfl, hR10, hb10⟩; have HR10 := Aside0.mk hR10; have HB10 := Aside0.mk hb10; clear hR10 hb10)
       go_ret2
       exact ⟨_, _, rfl, ⟨.inl ⟨rfl, _, HPO.out, by rw [HFN.out]; exact Kd.R_lower HR10.out (below_step HB.out HB9.out).size⟩⟩, below_step (below_step HB.out HB9.out) HB10.out⟩
      | true =>
       rw [h15] at c15
       have HFN : Aside0 (finB h b2 = b3.set 482 1) := ⟨by unfold finB; rw [h15, if_pos rfl, HE3.out, HMS.out]⟩
       have x482 : w9.cell? ⟨bb, 482, none⟩ = some (.int .u8 (rd b3 482)) := blk_rd HK9.out HBK9.out.len 482 (by decide)
       have y482 := blk_frozen HK9.out 482
       clear h15
       go_upto_region 15 with (fail)
       have hk7 := blk_set HK9.out 482 (.int .u8 1)
       rw [u8c_set] at hk7
       have hb7 := below_set (j := 482) (v := .int .u8 1) HB9.out HBC.out
       generalize World.setCell _ _ _ = w7 at hk7 hb7 ⊢
       have HSC := Aside0.mk (ref_seal_own (b3.set 482 1) (HBK9.out.set 482 1 (by decide)) bb w7 hk7)
       have HB7 := Aside0.mk hb7
       clear hk7 hb7 c15 x482 y482
       go_wp2_with (go_at_call 21; refine HSC.out.mono ?_; rintro e w10 ⟨v10, rfl, hR10, hb10⟩; have HR10 := Aside0.mk hR10; have HB10 := Aside0.mk hb10; clear hR10 hb10)
       go_ret2
       exact ⟨_, _, rfl, ⟨.inl ⟨rfl, _, HPO.out, by rw [HFN.out]; exact Kd.R_lower HR10.out (below_step HB.out HB7.out).size⟩⟩, below_step (below_step HB.out HB7.out) HB10.out⟩
     ·go_wp2
      go_ret2
      exact ⟨_, _, rfl, ⟨.inr ⟨by decide, rfl⟩⟩, below_step HB.out HB6.out⟩
   ·go_wp2
    go_ret2
    exact ⟨_, _, rfl, ⟨.inr ⟨by decide, rfl⟩⟩, below_step HB.out HB4.out⟩
end Go.Proofs.YtkfcfbggojmfkaaGreatDoor.P
end

section
namespace Go.Proofs.YtkfcfbggojmfkaaGreatDoor.P
open Go Go.RowKit Go.Proofs.YtkfcfbggojmfkaaGreatDoorW.PrintWords Go.Proofs.YtkfcfbggojmfkaaGreatDoorW.PrintLast Go.Proofs.YtkfcfbggojmfkaaGreatDoorW.PrintMore
set_option linter.unusedVariables false
set_option linter.unusedSimpArgs false

section
variable {P : Program} {ops : Array Oper} {rest : List Oper} {o : Oper} {a : Act} {Q : Exit → Act → World → Prop}
theorem lit_event {W : World} (hgd : o.guard = none) (cs : Array Value) (t : TypeId) (n : Nat)
  (hrun : (execOp a.eval o).run P W = .ok (.value (.slice (some ⟨W.heap.size, 0, none⟩) n n)) (W.alloc (.cells cs t (0, 0))))
  (h : ∀ g, g = W.heap.size → ∀ w1, w1.heap[g]? = some (.cells cs t (0, 0)) → Below W.heap.size W w1 → wpList P ops Q rest (a.put o.dst (.slice (some ⟨g, 0, none⟩) n n)) w1) : wpList P ops Q (o :: rest) a W :=
 Kd.event_run hgd hrun (h _ rfl _ (blk_new W _) (below_alloc (Below.refl _ _) _))
end
def bentA : Array Value := #[.int .i64 100, .int .i64 108, .int .i64 124, .int .i64 136, .int .i64 156, .int .i64 257, .int .i64 263, .int .i64 329, .int .i64 386, .int .i64 398, .int .i64 482, .int .i64 483]
theorem bent_at (n : Nat) (h : n < 12) : ∃ a : Nat, bentA[n]? = some (.int .i64 (a : Int)) ∧ a < 512 := by
 match n, h with
 | 0, _ => exact ⟨100, rfl, by decide⟩
 | 1, _ => exact ⟨108, rfl, by decide⟩
 | 2, _ => exact ⟨124, rfl, by decide⟩
 | 3, _ => exact ⟨136, rfl, by decide⟩
 | 4, _ => exact ⟨156, rfl, by decide⟩
 | 5, _ => exact ⟨257, rfl, by decide⟩
 | 6, _ => exact ⟨263, rfl, by decide⟩
 | 7, _ => exact ⟨329, rfl, by decide⟩
 | 8, _ => exact ⟨386, rfl, by decide⟩
 | 9, _ => exact ⟨398, rfl, by decide⟩
 | 10, _ => exact ⟨482, rfl, by decide⟩
 | 11, _ => exact ⟨483, rfl, by decide⟩
def BentB (b : List Int) : Prop := b = List.replicate 512 0 ∨ ∃ h, printO h = .ok b
structure BentP (l1 : List Int) (sl : Bool) (l : List Int) : Prop where
 blk : Blk l
 plain : l1 = [] → ∃ b, BentB b ∧ l = if sl = true then sealF b else b
theorem BentB.blk {b : List Int} (h : BentB b) : Blk b := by
 rcases h with rfl | ⟨h, e⟩
 ·exact Blk.zero
 ·obtain ⟨b1, b2, b3, p⟩ := pr_inv e
  exact ⟨p.length, p.bytes⟩
theorem Blk.closed {b : List Int} (h : Blk b) : Blk (sealF b) := ⟨sealF_length b, sealF_bytes b h.bytes⟩
structure BW (w : World) (bb cb : Nat) (b : List Int) (W : World) : Prop where
 r : Kd.R (Kd.int .u8) 5 W w.heap.size (fun _ => True) (.slice (some ⟨bb, 0, none⟩) 512 cb) b
 up0 : Below w.heap.size w W
 k : Blk b
theorem BW.up {w W W' : World} {bb cb : Nat} {b : List Int} (p : BW w bb cb b W) (h : Below W.heap.size W W') : BW w bb cb b W' := ⟨Kd.R_below p.r h, below_step p.up0 h, p.k⟩
theorem BW.drew {w W : World} {bb cb : Nat} {b : List Int} (p : BW w bb cb b W) : BW w bb cb b W.drew := ⟨Kd.R_drew p.r, below_drew p.up0, p.k⟩
theorem BW.set {w W : World} {bb cb : Nat} {b : List Int} (p : BW w bb cb b W) (i : Nat) (x : Int) (hx : 0 ≤ x ∧ x < 256) : BW w bb cb (b.set i x) (W.setCell ⟨bb, i, none⟩ (.int .u8 x)) :=
 ⟨by have := Kd.R_putn p.r (i : Int) x; rwa [Int.toNat_natCast] at this, pw_below_grown p.up0 (some bb) p.up0.size (grown_setCell0 W bb i (.int .u8 x)) (fun k hk => by injection hk with hk; rw [← hk]; exact Kd.R_base p.r _ rfl), p.k.set i x hx⟩
theorem BW.open {w W : World} {v : Value} {b : List Int} (hr : Kd.R (Kd.int .u8) 5 W w.heap.size (fun _ => True) v b) (hb : Below w.heap.size w W) (hk : Blk b) : ∃ bb cb, v = .slice (some ⟨bb, 0, none⟩) 512 cb ∧ BW w bb cb b W := by
 obtain ⟨g, cap, rfl, _⟩ := Kd.R_form hr (by rw [hk.len]; decide)
 refine ⟨g, cap, by rw [hk.len], ?_⟩
 exact ⟨by rw [hk.len] at hr; exact hr, hb, hk⟩
theorem ref_seal_row {w W : World} {bb cb : Nat} {b : List Int} (hr : Kd.R (Kd.int .u8) 5 W w.heap.size (fun _ => True) (.slice (some ⟨bb, 0, none⟩) 512 cb) b) (hb : Blk b) :
  Calls Tryz.prog 21 #[.slice (some ⟨bb, 0, none⟩) 512 cb] W fun e w' => ∃ v, e = .returned v ∧ Kd.R (Kd.int .u8) 5 w' W.heap.size (fun _ => True) v (sealF b) ∧ Below W.heap.size W w' := by
 obtain ⟨hn, hc, hC⟩ := Kd.R_reads' hr
 obtain ⟨k, hk⟩ := RefSeal_eq b hb.bytes (by rw [hb.len]; decide)
 have h := mudlarkref05_Seal.calls k (some ⟨bb, 0, none⟩) cb b (sealF b) W hC (by rw [hb.len]; exact hc) (hk k (Nat.le_refl _))
 rw [hb.len] at h
 exact h
set_option maxRecDepth 100000 in
set_option maxHeartbeats 8000000 in
theorem bent_calls (A0 : Option Addr) (c0 : Nat) (l0 : List Int) (A1 : Option Addr) (c1 : Nat) (l1 : List Int) (sl : Bool) (w : World) (hr0 : Kd.C (Kd.int .u8) w A0 l0.length l0) (hc0 : l0.length ≤ c0) (hb0 : Bytes l0) (hr1 : Kd.C (Kd.int .u8) w A1 l1.length l1) (hc1 : l1.length ≤ c1) (hb1 : Bytes l1) :
  Calls Tryz.prog 7 #[.slice A0 l0.length c0, .slice A1 l1.length c1, .bool sl] w fun e w' => ∃ v l, e = .returned v ∧ Aside0 (BentP l1 sl l) ∧ Aside0 (Kd.R (Kd.int .u8) 5 w' w.heap.size (fun _ => True) v l) ∧ Below w.heap.size w w' := by
 have HHC := Aside0.mk (Header_calls A0 c0 l0 w hr0 hc0 hb0)
 have HR1 := Aside0.mk hr1
 have HBY := Aside0.mk hb1
 obtain ⟨n0, hn0⟩ : ∃ n, n = l0.length := ⟨_, rfl⟩
 obtain ⟨n1, hn1⟩ : ∃ n, n = l1.length := ⟨_, rfl⟩
 rw [← hn0] at HHC
 rw [← hn0, ← hn1]
 have HN1 := Aside0.mk hn1
 have HM1 := Aside0.mk (Kd.C_max hr1)
 clear hr0 hc0 hb0 hr1 hc1 hb1 hn0 hn1
 go_enter Tryz.func7, Tryz.ntmps7
 go_upto_region 2 with (first | (go_at_call 20; refine HHC.out.mono ?_; rintro e w1 ⟨h0, v0, cs, HOK, HCS, rfl, HR0, hb1⟩; have HB1 := Aside0.mk hb1; clear hb1) | (go_at_call 19; obtain ⟨A14, c14, hv14⟩ := Kd.R_slice HR0.out; subst hv14; rw [HCS.out.eq]; refine (ref_print_calls h0 A14 c14 w1 (Kd.R_reads' HR0.out).2.2 (Kd.R_reads' HR0.out).2.1 HOK.out).mono ?_; rintro e w2 ⟨v2, n2, rfl, HP2, hb2⟩; have HB2 := Aside0.mk hb2; clear hb2))
 have HB3 := Aside0.mk (below_step HB1.out HB2.out)
 have HP3 : Aside0 ((n2 = 0 ∧ ∃ l, BentB l ∧ Kd.R (Kd.int .u8) 5 w2 w.heap.size (fun _ => True) v2 l) ∨ ¬ n2 = 0) := ⟨by
  rcases HP2.out with ⟨h1, l, h2, h3⟩ | ⟨h1, _⟩
  ·exact .inl ⟨h1, l, .inr ⟨_, h2⟩, Kd.R_lower h3 HB1.out.size⟩
  ·exact .inr h1⟩
 clear HP2 HB1 HB2 HR0 HCS HHC HOK
 go_upto_if 18 with (fail)
 go_cut [7, 18] from 1 to 0 (fun v7 v18 wx => ∃ (b : List Int) (bb cb : Nat), v7 = .slice (some ⟨bb, 0, none⟩) 512 cb ∧ Aside0 (BentB b) ∧ Aside0 (BW w bb cb b wx))
 case first =>
  rcases HP3.out with ⟨h1, l, h2, h3⟩ | h1
  ·have q2 : (n2 != 0) = false := by rw [h1]; rfl
   obtain ⟨bb, cb, hv, hw⟩ := BW.open h3 HB3.out h2.blk
   subst hv
   have HX := Aside0.mk hw
   have HY := Aside0.mk h2
   clear h1 h2 h3 hw HP3
   go_wp2
   go_meet
   exact ⟨l, bb, cb, rfl, HY, HX⟩
  ·have q2 : (n2 != 0) = true := bne_iff_ne.2 h1
   clear h1 HP3
   go_wp2_with (refine make_bytes rfl 22 (.const (.int .i64 512)) (.const (.int .i64 512)) rfl 512 rfl rfl 5 Tryz.underlying22 info5 (by decide) ?_; intro bb hbb w3 hbk hb3; have HBK := Aside0.mk hbk; have HB4 := Aside0.mk (below_step HB3.out hb3); have HLO := Aside0.mk (show w.heap.size ≤ bb by rw [hbb]; exact HB3.out.size); clear hbk hb3 hbb)
   go_meet
   refine ⟨List.replicate 512 0, bb, 512, rfl, ⟨.inl rfl⟩, ⟨⟨?_, HB4.out, Blk.zero⟩⟩⟩
   have := row_R (base := w.heap.size) _ HBK.out HLO.out (by rw [List.length_replicate]; decide)
   rw [List.length_replicate] at this
   exact this
 case rest =>
 obtain ⟨b0, bb, cb, rfl, HBB, HW⟩ := hcut
 clear HP3 HB3
 go_wp2
 go_loopg [9] 4 (fun kq v9 wx => ∃ (j i : Nat) (b : List Int), v9 = .int .i64 (i : Int) ∧ Aside0 (i = 3 * j) ∧ Aside0 (j + kq = 4) ∧ Aside0 (l1 = [] → b = b0) ∧ Aside0 (BW w bb cb b wx))
 case atStart => exact ⟨0, 0, b0, rfl, ⟨rfl⟩, ⟨rfl⟩, ⟨fun _ => rfl⟩, HW⟩
 case round =>
  obtain ⟨j, i, b, rfl, HI3, HJ, HE, HX⟩ := hrel
  clear HW
  by_cases hlt : i + 2 < n1
  ·by_cases hj : i < 12
   ·have q0 : ((i : Int) + 2 < (n1 : Int)) = True := eq_true (by omega)
    have q1 : ((i : Int) < 12) = True := eq_true (by omega)
    have q1n : (i < 12) = True := eq_true hj
    have q2 : ((i : Int) < (n1 : Int)) = True := eq_true (by omega)
    have q2n : (i < n1) = True := eq_true (by omega)
    have q3 : ((i : Int) + 1 < (n1 : Int)) = True := eq_true (by omega)
    have q3n : (i + 1 < n1) = True := eq_true (by omega)
    have q4n : (i + 2 < n1) = True := eq_true (by omega)
    have p0 : (0 ≤ (i : Int)) = True := eq_true (by omega)
    have p1 : (0 ≤ (i : Int) + 1) = True := eq_true (by omega)
    have p2 : (0 ≤ (i : Int) + 2) = True := eq_true (by omega)
    have hmx : (i : Int) ≤ 11 := by omega
    have hl1 : i + 2 < l1.length := by rw [← HN1.out]; exact hlt
    have hC := Kd.C_below HR1.out HX.out.up0
    obtain ⟨ad, eA, y0⟩ := Kd.at_int hC (i : Int) (by omega) (by omega)
    obtain ⟨ad1, e1, y1⟩ := Kd.at_int hC ((i + 1 : Nat) : Int) (by omega) (by omega)
    obtain ⟨ad2, e2, y2⟩ := Kd.at_int hC ((i + 2 : Nat) : Int) (by omega) (by omega)
    rw [eA] at e1 e2
    obtain rfl := Option.some.inj e1
    obtain rfl := Option.some.inj e2
    rw [Int.toNat_natCast] at y0 y1 y2
    have b0_ : 0 ≤ rd l1 (i : Int) ∧ rd l1 (i : Int) < 256 := by rw [rd_at l1 i (by omega)]; exact HBY.out _ (List.getElem_mem _)
    have b1_ : 0 ≤ rd l1 ((i + 1 : Nat) : Int) ∧ rd l1 ((i + 1 : Nat) : Int) < 256 := by rw [rd_at l1 (i + 1) (by omega)]; exact HBY.out _ (List.getElem_mem _)
    have b2_ : 0 ≤ rd l1 ((i + 2 : Nat) : Int) ∧ rd l1 ((i + 2 : Nat) : Int) < 256 := by rw [rd_at l1 (i + 2) (by omega)]; exact HBY.out _ (List.getElem_mem _)
    generalize rd l1 (i : Int) = x0 at y0 b0_
    generalize rd l1 ((i + 1 : Nat) : Int) = x1 at y1 b1_
    generalize rd l1 ((i + 2 : Nat) : Int) = x2 at y2 b2_
    have HA := Aside0.mk eA
    have HB2 := Aside0.mk b2_
    have HNE : Aside0 (¬ l1 = []) := ⟨fun e => by rw [e] at hl1; simp at hl1⟩
    obtain ⟨n2_, hn2, hl2⟩ := tmod_nat x1 b1_.1 2 (by decide)
    obtain ⟨na, hna, hla⟩ := tmod_nat (x0 + 256 * (n2_ : Int)) (by omega) 512 (by decide)
    obtain ⟨n12, hn12, hl12⟩ := tmod_nat x0 b0_.1 12 (by decide)
    have w0_ : IntKind.i64.wrap x0 = x0 := by rw [i64_w]; exact wrap64_id _ (by omega) (by omega)
    have w0' : wrap64 x0 = x0 := wrap64_id _ (by omega) (by omega)
    have w1_ : IntKind.i64.wrap (n2_ : Int) = (n2_ : Int) := by rw [i64_w]; exact wrap64_id _ (by omega) (by omega)
    have w2_ : IntKind.i64.wrap (256 * (n2_ : Int)) = 256 * (n2_ : Int) := by rw [i64_w]; exact wrap64_id _ (by omega) (by omega)
    have w3_ : IntKind.i64.wrap (x0 + 256 * (n2_ : Int)) = x0 + 256 * (n2_ : Int) := by rw [i64_w]; exact wrap64_id _ (by omega) (by omega)
    have w4_ : IntKind.i64.wrap ((i : Int) + 1) = (i : Int) + 1 := by rw [i64_w]; exact wrap64_id _ (by omega) (by omega)
    subst eA
    have y1 : wr.cell? ⟨ad.block, ad.off + (i + 1), none⟩ = some (.int .u8 x1) := by simpa [Addr.add] using y1
    have y2 : wr.cell? ⟨ad.block, ad.off + (i + 2), none⟩ = some (.int .u8 x2) := by simpa [Addr.add] using y2
    have HLA := Aside0.mk hla
    have HL12 := Aside0.mk hl12
    have HLT := Aside0.mk hlt
    have HJ12 := Aside0.mk hj
    clear hC hl1 hlt hj b0_ b1_ b2_ e1 e2 hl2 hla hl12
    go_upto_region 7 with (fail)
    go_region_held3 (fun w' => w'.cell? (ad.add i) = some (.int .u8 x0) ∧ w'.cell? ⟨ad.block, ad.off + (i + 1), none⟩ = some (.int .u8 x1)) (go_keep) (fail)
    have hX7 := BW.drew HX.out
    have z0 : wr.drew.cell? (ad.add i) = some (.int .u8 x0) := y0
    have z1 : wr.drew.cell? ⟨ad.block, ad.off + (i + 1), none⟩ = some (.int .u8 x1) := y1
    have z2 : wr.drew.cell? ⟨ad.block, ad.off + (i + 2), none⟩ = some (.int .u8 x2) := y2
    generalize wr.drew = w7 at hX7 z0 z1 z2 ⊢
    have HX7 := Aside0.mk hX7
    clear hX7 y0 y1 y2 HX
    go_upto_if 51 with (fail)
    go_cut [10, 51] from 1 to 0 (fun v10 v51 wx => ∃ a : Nat, v10 = .int .i64 (a : Int) ∧ Aside0 (a < 512) ∧ Aside0 (Below w7.heap.size w7 wx))
    case first =>
     obtain ⟨a, ha, hal⟩ := bent_at n12 (by have := HL12.out; omega)
     have HAL := Aside0.mk hal
     have HAT := Aside0.mk ha
     have p12 : ((n12 : Int) < 12) = True := eq_true HL12.out
     have p12n : (n12 < 12) = True := eq_true (by have := HL12.out; omega)
     clear ha hal z1 z2
     go_wp2_with ((with_reducible refine gate_dst (N := 52) rfl ?_); refine lit_event rfl bentA 3 12 (by go_simp; rfl) ?_; intro g9 hg9 w9 hbk9 hb9; have HB9 := Aside0.mk hb9; have z0 := pw_cell_below hb9 z0; have za := (blk_cell hbk9 n12).trans HAT.out; clear hg9 hbk9 hb9)
     ·go_meet
      exact ⟨a, rfl, HAL, HB9⟩
     ·go_meet
      exact ⟨na, rfl, ⟨by have := HLA.out; omega⟩, ⟨Below.refl _ _⟩⟩
    case rest =>
    obtain ⟨a, rfl, HAL, HBa⟩ := hcut
    have HXa := Aside0.mk (HX7.out.up HBa.out)
    have z2 := pw_cell_below HBa.out z2
    clear HX7 z0 z1 HBa
    have ha := HAL.out
    have pa : (0 ≤ (a : Int)) = True := eq_true (by omega)
    have pb : ((a : Int) < 512) = True := eq_true (by omega)
    have pc : (a < 512) = True := eq_true ha
    obtain ⟨s1, s2⟩ := Kd.R_celln (0 : Int) HXa.out.r (a : Int) (by omega) (by omega)
    rw [Int.toNat_natCast] at s1 s2
    have hs := HXa.out.set a x2 HB2.out
    have HS := Aside0.mk hs
    clear hs ha
    go_wp2
    generalize World.setCell _ _ _ = w10 at HS ⊢
    have hi3 := HI3.out
    have hj := HJ.out
    have hj12 := HJ12.out
    obtain ⟨k1, rfl⟩ : ∃ k1, gk = k1 + 1 := ⟨gk - 1, by omega⟩
    go_roundg k1
    case measure => omega
    case rel => exact ⟨j + 1, i + 3, _, by go_num, ⟨by omega⟩, ⟨by omega⟩, ⟨fun e => absurd e HNE.out⟩, HS⟩
   ·have q0 : ((i : Int) + 2 < (n1 : Int)) = True := eq_true (by omega)
    have q1 : ((i : Int) < 12) = False := eq_false (by omega)
    have q1n : (i < 12) = False := eq_false hj
    have q4n : (i + 2 < n1) = True := eq_true (by omega)
    have hmx : (i : Int) ≤ 12 := by have := HI3.out; have := HJ.out; omega
    clear hlt hj
    cases sl with
    | true =>
     have HSC := Aside0.mk (ref_seal_row HX.out.r HX.out.k)
     go_wp2_with (go_at_call 21; refine HSC.out.mono ?_; rintro e w10 ⟨v10, rfl, hR10, hb10⟩; have HR10 := Aside0.mk hR10; have HB10 := Aside0.mk hb10; clear hR10 hb10)
     go_ret
     exact ⟨_, _, rfl, ⟨⟨HX.out.k.closed, fun e => ⟨b0, HBB.out, by rw [HE.out e]; rfl⟩⟩⟩, ⟨Kd.R_lower HR10.out HX.out.up0.size⟩, below_step HX.out.up0 HB10.out⟩
    | false =>
     go_wp2
     go_ret
     exact ⟨_, _, rfl, ⟨⟨HX.out.k, fun e => ⟨b0, HBB.out, by rw [HE.out e]; rfl⟩⟩⟩, ⟨HX.out.r⟩, HX.out.up0⟩
  ·have q0 : ((i : Int) + 2 < (n1 : Int)) = False := eq_false (by omega)
   have q4n : (i + 2 < n1) = False := eq_false hlt
   have hmx : (i : Int) ≤ 12 := by have := HI3.out; have := HJ.out; omega
   clear hlt
   cases sl with
   | true =>
    have HSC := Aside0.mk (ref_seal_row HX.out.r HX.out.k)
    go_wp2_with (go_at_call 21; refine HSC.out.mono ?_; rintro e w10 ⟨v10, rfl, hR10, hb10⟩; have HR10 := Aside0.mk hR10; have HB10 := Aside0.mk hb10; clear hR10 hb10)
    go_ret
    exact ⟨_, _, rfl, ⟨⟨HX.out.k.closed, fun e => ⟨b0, HBB.out, by rw [HE.out e]; rfl⟩⟩⟩, ⟨Kd.R_lower HR10.out HX.out.up0.size⟩, below_step HX.out.up0 HB10.out⟩
   | false =>
    go_wp2
    go_ret
    exact ⟨_, _, rfl, ⟨⟨HX.out.k, fun e => ⟨b0, HBB.out, by rw [HE.out e]; rfl⟩⟩⟩, ⟨HX.out.r⟩, HX.out.up0⟩
end Go.Proofs.YtkfcfbggojmfkaaGreatDoor.P
end
