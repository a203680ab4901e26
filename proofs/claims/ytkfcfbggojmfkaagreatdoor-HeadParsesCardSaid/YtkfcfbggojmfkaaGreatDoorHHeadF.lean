/- head.lay: a number laid over a block's bytes, or a panic. No conditions. head.bare: what it tells of every header. No conditions. head.print as a function of a header's fields: plain definitions and their lengths. No conditions. -/
import Derived.Test.YtkfcfbggojmfkaaGreatDoorHHeadP
import Derived.Test.YtkfcfbggojmfkaaGreatDoorPx2
import Derived.Laws.CopyOwn
import Derived.StillTailTactics
import Derived.Deep.QuietTactic
import Derived.BigQuiet
import Derived.Test.YtkfcfbggojmfkaaGreatDoorHHeadD
import Derived.Test.YtkfcfbggojmfkaaGreatDoorPx0
import Derived.Deep.CutRange
import Derived.Test.YtkfcfbggojmfkaaGreatDoorHSealP
section
namespace Go.Proofs.YtkfcfbggojmfkaaGreatDoor.P
open Go Go.RowKit Go.Proofs.YtkfcfbggojmfkaaGreatDoorW.PrintWords Go.Proofs.YtkfcfbggojmfkaaGreatDoorW.PrintLast Go.Proofs.YtkfcfbggojmfkaaGreatDoorW.PrintMore
set_option linter.unusedVariables false
set_option linter.unusedSimpArgs false

def u8c (l : List Int) : List Value := l.map (Value.int .u8)
theorem u8c_length (l : List Int) : (u8c l).length = l.length := List.length_map ..
theorem u8c_splice (l x : List Int) (n : Nat) : splice (u8c l) n (u8c x) = u8c (splice l n x) := by
 unfold splice u8c
 rw [List.map_append, List.map_append, List.map_take, List.map_drop, List.length_map]
section
variable {P : Program} {ops : Array Oper} {o : Oper} {rest : List Oper} {a : Act} {Q : Exit → Act → World → Prop}
theorem make_bytes {W : World} (hgd : o.guard = none) (t : TypeId) (x y : Operand) (ho : o.op = .makeSlice t x y) (n : Nat) (hx : a.eval x = .int .i64 (n : Int)) (hy : a.eval y = .int .i64 (n : Int)) (e : TypeId)
  (ht : P.underlying t = some (.slice e)) (hinfo : (P.info? e).map (fun i => (i.zero, i.size, i.bytes)) = some (some (.int .u8 0), 1, 1)) (hl : n ≤ 281474976710656)
  (h : ∀ g, g = W.heap.size → ∀ w1, w1.heap[g]? = some (.cells (u8c (List.replicate n 0)).toArray e (0, 0)) → Below W.heap.size W w1 → wpList P ops Q rest (a.put o.dst (.slice (some ⟨g, 0, none⟩) n n)) w1) : wpList P ops Q (o :: rest) a W := by
 obtain ⟨i0, hi, hzz⟩ := Option.map_eq_some_iff.1 hinfo
 simp only [Prod.mk.injEq] at hzz
 obtain ⟨hz0, hz1, hz2⟩ := hzz
 have hr := run_make (P := P) W t e i0 (.int .u8 0) ht hi hz0 .i64 .i64 (n : Int) (n : Int) (by omega) (by omega) (by rw [hz2]; omega) (by omega)
 simp only [Int.toNat_natCast] at hr
 rw [hz1, Nat.mul_one] at hr
 have hrun : (execOp a.eval o).run P W = .ok (.value (.slice (some ⟨W.heap.size, 0, none⟩) n n)) (W.alloc (.cells (u8c (List.replicate n 0)).toArray e (0, 0))) := by
  have hm : madeCells (Value.int .u8 0).cells n = (u8c (List.replicate n 0)).toArray := by
   apply Array.toList_inj.1
   rw [show (Value.int .u8 0).cells = #[Value.int .u8 0] from rfl, toList_madeCells_one]
   simp [u8c]
  rw [hm] at hr
  simp [execOp, ho, hx, hy, hr]
 exact Kd.event_run hgd hrun (h _ rfl _ (blk_new W _) (below_alloc (Below.refl _ _) _))
theorem copy_put {w : World} (hgd : o.guard = none) (d s : Operand) (dT sT : TypeId)
  (ho : o.op = .call { callee := .builtin .copy, args := #[d, s], argTypes := #[dT, sT] }) (elem : TypeId) (hu : P.underlying dT = some (.slice elem)) (hsz : (P.info? elem).map (·.size) = some 1)
  (dp sp : Option Addr) (dLen dCap sLen sCap : Nat) (hd : a.eval d = .slice dp dLen dCap) (hs : a.eval s = .slice sp sLen sCap)
  (g off : Nat) (cur : List Value) (t : TypeId) (hg : w.heap[g]? = some (.cells cur.toArray t (0, 0))) (cs : List Value) (hn : cs.length = Nat.min sLen dLen)
  (hpos : 0 < cs.length → dp = some ⟨g, off, none⟩ ∧ ∃ ad, sp = some ad ∧ ∀ j v, cs[j]? = some v → w.cell? (ad.add j) = some v)
  (hfit : off + cs.length ≤ cur.length) (h1 : ∀ v ∈ cs, v.oneCell' = true) (B : Nat) (w0 : World) (hb : Below B w0 w) (hBg : B ≤ g)
  (h : ∀ w', Aside0 (w'.heap[g]? = some (.cells (splice cur off cs).toArray t (0, 0))) → (∀ k, k ≠ g → w'.heap[k]? = w.heap[k]?) → Below B w0 w' → wpList P ops Q rest (a.put o.dst (goInt cs.length)) w') :
  wpList P ops Q (o :: rest) a w := by
 by_cases h0 : cs.length = 0
 ·obtain rfl : cs = [] := List.eq_nil_of_length_eq_zero h0
  refine wpList_copy_nothing hgd d s dT sT ho elem hu hsz dp sp dLen dCap sLen sCap hd hs (by simpa using hn.symm) ?_
  exact h w ⟨show _ = _ by simpa [splice] using hg⟩ (fun _ _ => rfl) hb
 ·obtain ⟨rfl, ad, rfl, hsrc⟩ := hpos (by omega)
  refine wpList_copy_own hgd d s dT sT ho elem hu hsz g off dLen dCap ad sLen sCap hd hs cur.toArray t hg cs hn hsrc (by simpa using hfit) h1 ?_
  exact h _ ⟨show _ = _ by simpa [splice] using setRow_heap w g _ _ t _ hg⟩ (fun k hk => setRow_other w g k _ hk) (below_setRow hb hBg _)
end
theorem src_cells {w : World} {A : Option Addr} {x : List Int} (h : Kd.C (Kd.int .u8) w A x.length x) (m : Nat) (hm : m ≤ x.length) (h0 : 0 < m) :
  ∃ ad, A = some ad ∧ ∀ W, Below w.heap.size w W → ∀ j v, (u8c (x.take m))[j]? = some v → W.cell? (ad.add j) = some v := by
 obtain ⟨ad, e, _⟩ := Kd.at_int h 0 (by omega) (by omega)
 subst e
 refine ⟨ad, rfl, fun W hb j v hj => ?_⟩
 unfold u8c at hj
 rw [List.getElem?_map] at hj
 obtain ⟨y, hy, rfl⟩ := Option.map_eq_some_iff.1 hj
 obtain ⟨hl, hy2⟩ := List.getElem?_eq_some_iff.1 hy
 have hjm : j < m := by rw [List.length_take] at hl; omega
 obtain ⟨ad3, e3, hx⟩ := Kd.at_int h (j : Int) (by omega) (by omega)
 obtain rfl := Option.some.inj e3
 rw [Int.toNat_natCast] at hx
 have hr : rd x (j : Int) = y := by
  rw [← hy2, List.getElem_take]
  unfold rd
  simp [List.getD, show j < x.length by omega]
 rw [hr] at hx
 exact (hb.cell (World.block_lt_of_cell? w _ hx)).trans hx

theorem still_of_quiet {P : Program} {ops : Array Oper} {w : World} {Q : Act → Prop} : ∀ (l : List Oper) (a : Act), wpQuiet P ops (fun w' => w' = w) Q l a → wpStill P ops w Q l a
 | [], _, h => h
 | o :: rest, a, h => by
  unfold wpQuiet at h
  unfold wpStill
  split
  ·rename_i hw
   rw [if_pos hw] at h
   obtain ⟨v, h1, h2⟩ := h
   have h3 := h1 w rfl
   unfold Oper.quietAt at h3
   unfold Oper.still
   generalize (execOp a.eval o).run P w = r at h3 ⊢
   cases r with
   | ok n w' =>
    cases n <;> simp only [Oper.quietUpon] at h3 <;> simp only [Oper.stillUpon]
    case value u => obtain ⟨rfl, rfl⟩ := h3; exact ⟨rfl, still_of_quiet rest _ h2⟩
    case skip => obtain ⟨rfl, rfl⟩ := h3; exact ⟨rfl, still_of_quiet rest _ h2⟩
    case enter f args => obtain ⟨rfl, hc⟩ := h3; exact ⟨rfl, v, hc, still_of_quiet rest _ h2⟩
   | halt x w' => simp only [Oper.quietUpon] at h3
  ·rename_i hw
   rw [if_neg hw] at h
   exact still_of_quiet rest _ h
def fieldV (p : Addr) (at_ wd : Nat) (lo hi : Int) : Value := .agg #[.int .i64 (at_ : Int), .int .i64 (wd : Int), .pointer (some p), .int .i64 lo, .int .i64 hi]
structure Laid (w0 w w' : World) (bb : Nat) (l : List Int) : Prop where
 bk : w'.heap[bb]? = some (.cells (u8c l).toArray 5 (0, 0))
 rest : ∀ k, k < w.heap.size → k ≠ bb → w'.heap[k]? = w.heap[k]?
 size : w.heap.size ≤ w'.heap.size
 below : Below w0.heap.size w0 w'
set_option maxRecDepth 100000 in
set_option maxHeartbeats 4000000 in
theorem head_lay_ok (bb at_ wd : Nat) (p : Addr) (lo hi x : Int) (cur f : List Int) (w0 w : World) (hB : Below w0.heap.size w0 w) (hBb : w0.heap.size ≤ bb) (hbk : w.heap[bb]? = some (.cells (u8c cur).toArray 5 (0, 0))) (hl : cur.length = 512) (hx : w.cell? p = some (.int .i64 x)) (hp : putF x (wd : Int) = (f, true)) (hf : f.length = wd) (hfit : at_ + wd ≤ 512) (h1 : lo ≤ x) (h2 : x ≤ hi) :
  Calls Tryz.prog 67 #[.slice (some ⟨bb, 0, none⟩) 512 512, fieldV p at_ wd lo hi] w fun e w' => e = .returned (.tuple #[]) ∧ Laid w0 w w' bb (splice cur at_ f) := by
 obtain ⟨kp, hkp⟩ := Ev.rounds (g := fun k => num_Put.f k x (wd : Int)) (Put_eq x (wd : Int))
 rw [hp] at hkp
 have HKP := Aside0.mk hkp
 have hbx := row2_alloc w #[.int .i64 (at_ : Int), .int .i64 (wd : Int), .pointer (some p), .int .i64 lo, .int .i64 hi] 86
 have hW : Below w.heap.size w (w.alloc (.cells #[.int .i64 (at_ : Int), .int .i64 (wd : Int), .pointer (some p), .int .i64 lo, .int .i64 hi] 86)) := below_alloc (Below.refl w.heap.size w) _
 have hBW := below_alloc hB (.cells #[.int .i64 (at_ : Int), .int .i64 (wd : Int), .pointer (some p), .int .i64 lo, .int .i64 hi] 86)
 have HW := Aside0.mk hW
 have HBW := Aside0.mk hBW
 have hx1 := pw_cell_below hW hx
 have HBK := Aside0.mk (blk_below hbk hW)
 have d1 : decide (lo ≤ x) = true := decide_eq_true h1
 have d2 : decide (x ≤ hi) = true := decide_eq_true h2
 unfold fieldV
 clear hW hBW hkp hB hbk h1 h2
 go_enter Tryz.func67, Tryz.ntmps67
 go_upto_region 1 with (fail)
 generalize w.alloc (.cells #[.int .i64 (at_ : Int), .int .i64 (wd : Int), .pointer (some p), .int .i64 lo, .int .i64 hi] 86) = wb at hbx HW HBW HBK hx1 ⊢
 obtain ⟨bx, hbxe⟩ : ∃ n, n = w.heap.size := ⟨_, rfl⟩
 rw [← hbxe] at hbx ⊢
 have HBX := Aside0.mk hbx
 have b1 : wb.cell? ⟨bx, 1, none⟩ = some (.int .i64 (wd : Int)) := (blk_cell hbx 1).trans rfl
 have b2 : wb.cell? ⟨bx, 2, none⟩ = some (.pointer (some p)) := (blk_cell hbx 2).trans rfl
 have HBXE := Aside0.mk hbxe
 clear hbx hx hbxe
 go_region_held3 (fun w' => w'.cell? ⟨bx, 1, none⟩ = some (.int .i64 (wd : Int)) ∧ w'.cell? ⟨bx, 2, none⟩ = some (.pointer (some p)) ∧ w'.cell? p = some (.int .i64 x)) (first | go_keep | exact ⟨k1, k2, kx⟩) ((go_at_call 90; refine (num_Put.calls kp x (wd : Int) f true _ HKP.out).mono ?_; rintro e w7 ⟨v7, rfl, hR7, hb7⟩; obtain ⟨A7, c7, rfl⟩ := Kd.R_slice hR7; have k1 := pw_cell_below hb7 b1; have k2 := pw_cell_below hb7 b2; have kx := pw_cell_below hb7 hx1; have HB7 := Aside0.mk hb7; have HR7 := Aside0.mk hR7; clear hb7 hR7))
 go_upto_region 2 with (fail)
 have hB2 := below_step (below_drew HBW.out) HB7.out
 have hW2 := below_step (below_drew HW.out) HB7.out
 have HBXw := blk_below (w := wb.drew) (show wb.drew.heap[bx]? = _ from HBX.out) HB7.out
 have HBKw := blk_below (w := wb.drew) (show wb.drew.heap[bb]? = _ from HBK.out) HB7.out
 have b0 : w7.cell? ⟨bx, 0, none⟩ = some (.int .i64 (at_ : Int)) := (blk_cell HBXw 0).trans rfl
 have b3 : w7.cell? ⟨bx, 3, none⟩ = some (.int .i64 lo) := (blk_cell HBXw 3).trans rfl
 have b4 : w7.cell? ⟨bx, 4, none⟩ = some (.int .i64 hi) := (blk_cell HBXw 4).trans rfl
 have HB2 := Aside0.mk hB2
 have HK7 := Aside0.mk HBKw
 have HW2 := Aside0.mk hW2
 clear hW2 hB2 HBXw HBKw b1 b2 hx1
 go_quiet ((go_at_call 57; exact Calls.quiet_of ((need_ok 32 _).mono fun e w' h => ⟨h.1, 0, h.2⟩)))
 have hB8 := pw_below_drewN HB2.out nq
 have hW8 := pw_below_drewN HW2.out nq
 have hK8 : (w7.drewN nq).heap[bb]? = some (.cells (u8c cur).toArray 5 (0, 0)) := HK7.out
 have hR8 := Kd.R_drewN HR7.out nq
 have b08 : (w7.drewN nq).cell? ⟨bx, 0, none⟩ = some (.int .i64 (at_ : Int)) := b0
 generalize w7.drewN nq = w8 at hB8 hW8 hK8 hR8 b08 ⊢
 have HB8 := Aside0.mk hB8
 have HW8 := Aside0.mk hW8
 have HK8 := Aside0.mk hK8
 have HR8 := Aside0.mk hR8
 clear hB8 hW8 hK8 hR8 b0 b3 b4 k1 k2 kx HB2 HW2 HK7 HR7 HB7
 obtain ⟨i0, hi0, _, hsz0, _⟩ := info_parts info5
 have h39 := cut_from (P := Tryz.prog) 22 5 .i64 Tryz.underlying22 hi0 1 hsz0 (some ⟨bb, 0, none⟩) 512 512 (at_ : Int) (by omega) (by omega)
 simp only [Int.toNat_natCast] at h39
 obtain ⟨A39, hA39⟩ : ∃ A1, A1 = (if 512 = at_ then (some ⟨bb, 0, none⟩) else ((some ⟨bb, 0, none⟩) : Option Addr).map (·.add (at_ * 1))) := ⟨_, rfl⟩
 obtain ⟨L39, hL39⟩ : ∃ L, L = 512 - at_ := ⟨_, rfl⟩
 rw [← hA39, ← hL39] at h39
 have HA39 := Aside0.mk (show 0 < wd → A39 = some ⟨bb, at_, none⟩ by
  intro h0
  rw [hA39, if_neg (by omega), Option.map_some]
  simp [Addr.add]
  try omega)
 have HL39 := Aside0.mk hL39
 have HS := Aside0.mk (fun h0 => src_cells (Kd.R_reads' HR8.out).2.2 f.length (Nat.le_refl _) h0)
 have HF := Aside0.mk hf
 have HFIT := Aside0.mk hfit
 have HLC := Aside0.mk hl
 have HBB := Aside0.mk hBb
 clear hA39 hL39 hi0 hsz0 hf hfit hl hBb hp
 go_wp2_with (refine copy_put rfl (.tmp 39) (.tmp 40) 22 22 rfl 5 Tryz.underlying22 (by kernel_rfl) A39 A7 L39 L39 wd c7 rfl rfl bb at_ (u8c cur) 5 HK8.out (u8c f) ?hn ?hpos ?hfit ?h1 w0.heap.size w0 HB8.out HBB.out ?_)
 case hn =>
  rw [u8c_length, HF.out, HL39.out]
  show wd = min wd (512 - at_)
  have := HFIT.out
  omega
 case hpos =>
  intro h0
  rw [u8c_length] at h0
  obtain ⟨ad2, e2, hc⟩ := HS.out h0
  rw [List.take_of_length_le (Nat.le_refl _)] at hc
  exact ⟨HA39.out (by rw [← HF.out]; exact h0), ad2, e2, hc _ (Below.refl _ _)⟩
 case hfit =>
  rw [u8c_length, u8c_length, HF.out, HLC.out]
  exact HFIT.out
 case h1 =>
  intro v hv
  obtain ⟨z, _, rfl⟩ := List.mem_map.1 hv
  rfl
 intro w9 HG9 hk9 hB9
 rw [u8c_splice] at HG9
 have HK9 := Aside0.mk hk9
 have HB9 := Aside0.mk hB9
 clear hk9 hB9 h39
 go_wp2
 go_end0
 have hsz : w8.heap.size ≤ w9.heap.size := by
  rcases Nat.lt_or_ge w9.heap.size w8.heap.size with h | h
  ·exfalso
   by_cases e : w9.heap.size = bb
   ·have h1 := HG9.out
    rw [← e, Array.getElem?_eq_none (Nat.le_refl _)] at h1
    cases h1
   ·have h1 := HK9.out w9.heap.size e
    rw [Array.getElem?_eq_none (Nat.le_refl _), Array.getElem?_eq_getElem h] at h1
    cases h1
  ·exact h
 exact ⟨rfl, HG9.out, fun k hk hne => (HK9.out k hne).trans (HW8.out.block k hk), Nat.le_trans HW8.out.size hsz, HB9.out⟩
set_option maxRecDepth 100000 in
set_option maxHeartbeats 4000000 in
theorem head_lay_not (b : Value) (p : Addr) (wd : Nat) (at_ lo hi x : Int) (f : List Int) (ok : Bool) (w : World) (hx : w.cell? p = some (.int .i64 x)) (hp : putF x (wd : Int) = (f, ok)) (hbad : ok = false ∨ ok = true ∧ decide (lo ≤ x) = false ∨ ok = true ∧ decide (lo ≤ x) = true ∧ decide (x ≤ hi) = false) :
  Calls Tryz.prog 67 #[b, .agg #[.int .i64 at_, .int .i64 (wd : Int), .pointer (some p), .int .i64 lo, .int .i64 hi]] w fun e w' => e = .panicked [pan 32 false] ∧ Below w.heap.size w w' := by
 obtain ⟨kp, hkp⟩ := Ev.rounds (g := fun k => num_Put.f k x (wd : Int)) (Put_eq x (wd : Int))
 rw [hp] at hkp
 have HKP := Aside0.mk hkp
 have hbx := row2_alloc w #[.int .i64 at_, .int .i64 (wd : Int), .pointer (some p), .int .i64 lo, .int .i64 hi] 86
 have hW : Below w.heap.size w (w.alloc (.cells #[.int .i64 at_, .int .i64 (wd : Int), .pointer (some p), .int .i64 lo, .int .i64 hi] 86)) := below_alloc (Below.refl w.heap.size w) _
 have HW := Aside0.mk hW
 have hx1 := pw_cell_below hW hx
 clear hW hkp hp
 go_enter Tryz.func67, Tryz.ntmps67
 go_upto_region 1 with (fail)
 generalize w.alloc (.cells #[.int .i64 at_, .int .i64 (wd : Int), .pointer (some p), .int .i64 lo, .int .i64 hi] 86) = wb at hbx HW hx1 ⊢
 obtain ⟨bx, hbxe⟩ : ∃ n, n = w.heap.size := ⟨_, rfl⟩
 rw [← hbxe] at hbx ⊢
 have HBX := Aside0.mk hbx
 have b1 : wb.cell? ⟨bx, 1, none⟩ = some (.int .i64 (wd : Int)) := (blk_cell hbx 1).trans rfl
 have b2 : wb.cell? ⟨bx, 2, none⟩ = some (.pointer (some p)) := (blk_cell hbx 2).trans rfl
 have HBXE := Aside0.mk hbxe
 clear hbx hx hbxe
 go_region_held3 (fun w' => w'.cell? ⟨bx, 1, none⟩ = some (.int .i64 (wd : Int)) ∧ w'.cell? ⟨bx, 2, none⟩ = some (.pointer (some p)) ∧ w'.cell? p = some (.int .i64 x)) (first | go_keep | exact ⟨k1, k2, kx⟩) ((go_at_call 90; refine (num_Put.calls kp x (wd : Int) f ok _ HKP.out).mono ?_; rintro e w7 ⟨v7, rfl, hR7, hb7⟩; obtain ⟨A7, c7, rfl⟩ := Kd.R_slice hR7; have k1 := pw_cell_below hb7 b1; have k2 := pw_cell_below hb7 b2; have kx := pw_cell_below hb7 hx1; have HB7 := Aside0.mk hb7; have HR7 := Aside0.mk hR7; clear hb7 hR7))
 go_upto_region 2 with (fail)
 have hW2 := below_step (below_drew HW.out) HB7.out
 have HBXw := blk_below (w := wb.drew) (show wb.drew.heap[bx]? = _ from HBX.out) HB7.out
 have b3 : w7.cell? ⟨bx, 3, none⟩ = some (.int .i64 lo) := (blk_cell HBXw 3).trans rfl
 have b4 : w7.cell? ⟨bx, 4, none⟩ = some (.int .i64 hi) := (blk_cell HBXw 4).trans rfl
 clear HBXw b1 b2 hx1
 rcases hbad with rfl | ⟨rfl, d1⟩ | ⟨rfl, d1, d2⟩
 ·refine wp_region_still_tail 19 (by kernel_rfl) (by kernel_rfl) ?_
  simp only [List.take_succ_cons, List.take_zero, List.drop_succ_cons, List.drop_zero]
  refine still_of_quiet _ _ ?_
  repeat (go_big_quiet_step (fail))
  refine wpQuiet_nil ?_
  change wpList _ _ _ _ _ w7.drew
  have hW3 := below_drew hW2
  generalize w7.drew = w8 at hW3 ⊢
  go_wp2_with (go_at_call 57; (with_reducible refine (need_not2 _ _).mono ?_); rintro e w9 ⟨rfl, rfl⟩)
  exact ⟨rfl, rfl, hW3⟩
 ·refine wp_region_still_tail 19 (by kernel_rfl) (by kernel_rfl) ?_
  simp only [List.take_succ_cons, List.take_zero, List.drop_succ_cons, List.drop_zero]
  refine still_of_quiet _ _ ?_
  repeat (go_big_quiet_step (fail))
  refine wpQuiet_nil ?_
  change wpList _ _ _ _ _ w7.drew
  have hW3 := below_drew hW2
  generalize w7.drew = w8 at hW3 ⊢
  go_wp2_with (go_at_call 57; (with_reducible refine (need_not2 _ _).mono ?_); rintro e w9 ⟨rfl, rfl⟩)
  exact ⟨rfl, rfl, hW3⟩
 ·refine wp_region_still_tail 19 (by kernel_rfl) (by kernel_rfl) ?_
  simp only [List.take_succ_cons, List.take_zero, List.drop_succ_cons, List.drop_zero]
  refine still_of_quiet _ _ ?_
  repeat (go_big_quiet_step (fail))
  refine wpQuiet_nil ?_
  change wpList _ _ _ _ _ w7.drew
  have hW3 := below_drew hW2
  generalize w7.drew = w8 at hW3 ⊢
  go_wp2_with (go_at_call 57; (with_reducible refine (need_not2 _ _).mono ?_); rintro e w9 ⟨rfl, rfl⟩)
  exact ⟨rfl, rfl, hW3⟩
end Go.Proofs.YtkfcfbggojmfkaaGreatDoor.P
end

section
namespace Go.Proofs.YtkfcfbggojmfkaaGreatDoor.P
open Go Go.RowKit Go.Proofs.YtkfcfbggojmfkaaGreatDoorW.PrintWords Go.Proofs.YtkfcfbggojmfkaaGreatDoorW.PrintLast Go.Proofs.YtkfcfbggojmfkaaGreatDoorW.PrintMore
set_option linter.unusedVariables false
set_option linter.unusedSimpArgs false

def cells25 (h : S31) (v : Value) : Array Value := #[.string h.f0, .int .i64 h.f1, .int .i64 h.f2, .int .i64 h.f3, .int .i64 h.f4, .int .i64 h.f5, .int .u8 h.f6, .string h.f7, .int .i64 h.f8, .string h.f9, .string h.f10, .int .i64 h.f11, .int .i64 h.f12, .string h.f13, v, .bool h.f15, .int .i64 h.f16]
theorem row2_alloc0 (w : World) (cs : Array Value) (t : TypeId) : (w.alloc (.cells cs t)).heap[w.heap.size]? = some (.cells cs t (0, 0)) := by
 show (w.heap.push _)[w.heap.size]? = _
 rw [Array.getElem?_push, if_pos rfl]
def noneS (s : ByteArray) : Bool := decide (s.toList = [])
def bareV (h : S31) : Bool := (h.f8 == 0) && (!noneS h.f9 || !noneS h.f10 || (h.f11 != 0) || (h.f12 != 0))
def bareP (h : S31) : Bool := (h.f8 != 1) && !noneS h.f13
def bareS (h : S31) : Bool := (h.f6 == 83) || (decide (h.f14.length = 0) && !h.f15 && (h.f16 == 0))
def bareB (h : S31) : Bool := !bareV h && !bareP h && bareS h
set_option maxRecDepth 100000 in
set_option maxHeartbeats 4000000 in
theorem head_bare_calls (h : S31) (A14 : Option Addr) (c14 : Nat) (w : World) :
  Calls Tryz.prog 65 #[.agg (cells25 h (.slice A14 h.f14.length c14))] w fun e w' => e = .returned (.bool (bareB h)) ∧ Below w.heap.size w w' := by
 unfold cells25
 obtain ⟨f0, f1, f2, f3, f4, f5, f6, f7, f8, f9, f10, f11, f12, f13, f14, f15, f16⟩ := h
 have HBR : Aside0 (bareB ⟨f0, f1, f2, f3, f4, f5, f6, f7, f8, f9, f10, f11, f12, f13, f14, f15, f16⟩ = (!((f8 == 0) && (!noneS f9 || !noneS f10 || (f11 != 0) || (f12 != 0))) && !((f8 != 1) && !noneS f13) && ((f6 == 83) || (decide (f14.length = 0) && !f15 && (f16 == 0))))) := ⟨rfl⟩
 dsimp only
 go_enter Tryz.func65, Tryz.ntmps65
 go_upto_region 1 with (fail)
 have hbx := row2_alloc0 w #[.string f0, .int .i64 f1, .int .i64 f2, .int .i64 f3, .int .i64 f4, .int .i64 f5, .int .u8 f6, .string f7, .int .i64 f8, .string f9, .string f10, .int .i64 f11, .int .i64 f12, .string f13, .slice A14 f14.length c14, .bool f15, .int .i64 f16] 31
 have hW := below_alloc (Below.refl w.heap.size w) (.cells #[.string f0, .int .i64 f1, .int .i64 f2, .int .i64 f3, .int .i64 f4, .int .i64 f5, .int .u8 f6, .string f7, .int .i64 f8, .string f9, .string f10, .int .i64 f11, .int .i64 f12, .string f13, .slice A14 f14.length c14, .bool f15, .int .i64 f16] 31)
 generalize w.alloc (.cells #[.string f0, .int .i64 f1, .int .i64 f2, .int .i64 f3, .int .i64 f4, .int .i64 f5, .int .u8 f6, .string f7, .int .i64 f8, .string f9, .string f10, .int .i64 f11, .int .i64 f12, .string f13, .slice A14 f14.length c14, .bool f15, .int .i64 f16] 31) = wb at hbx hW ⊢
 have HW := Aside0.mk hW
 clear hW
 generalize w.heap.size = bx at hbx ⊢
 have c6 : wb.cell? ⟨bx, 6, none⟩ = some (.int .u8 f6) := (blk_cell hbx 6).trans rfl
 have c8 : wb.cell? ⟨bx, 8, none⟩ = some (.int .i64 f8) := (blk_cell hbx 8).trans rfl
 have c9 : wb.cell? ⟨bx, 9, none⟩ = some (.string f9) := (blk_cell hbx 9).trans rfl
 have c10 : wb.cell? ⟨bx, 10, none⟩ = some (.string f10) := (blk_cell hbx 10).trans rfl
 have c11 : wb.cell? ⟨bx, 11, none⟩ = some (.int .i64 f11) := (blk_cell hbx 11).trans rfl
 have c12 : wb.cell? ⟨bx, 12, none⟩ = some (.int .i64 f12) := (blk_cell hbx 12).trans rfl
 have c13 : wb.cell? ⟨bx, 13, none⟩ = some (.string f13) := (blk_cell hbx 13).trans rfl
 have c14_ : wb.cell? ⟨bx, 14, none⟩ = some (.slice A14 f14.length c14) := (blk_cell hbx 14).trans rfl
 have c15 : wb.cell? ⟨bx, 15, none⟩ = some (.bool f15) := (blk_cell hbx 15).trans rfl
 have c16 : wb.cell? ⟨bx, 16, none⟩ = some (.int .i64 f16) := (blk_cell hbx 16).trans rfl
 clear hbx
 generalize Value.agg #[.string f0, .int .i64 f1, .int .i64 f2, .int .i64 f3, .int .i64 f4, .int .i64 f5, .int .u8 f6, .string f7, .int .i64 f8, .string f9, .string f10, .int .i64 f11, .int .i64 f12, .string f13, .slice A14 f14.length c14, .bool f15, .int .i64 f16] = v0
 go_cut [3] from 1 to 0 (fun v3 wx => wx = wb ∧ v3 = .bool ((f8 == 0) && (!noneS f9 || !noneS f10 || (f11 != 0) || (f12 != 0))))
 case first =>
  by_cases h8 : f8 = 0
  ·have e8 : (f8 == 0) = true := beq_iff_eq.2 h8
   clear h8
   go_wp2
   all_goals go_meet
   all_goals exact ⟨rfl, by simp [noneS, *] <;> (cases f13.toList <;> simp)⟩
  ·have e8 : (f8 == 0) = false := beq_eq_false_iff_ne.2 h8
   clear h8
   go_wp2
   all_goals go_meet
   all_goals exact ⟨rfl, by simp [noneS, *] <;> (cases f13.toList <;> simp)⟩
 case rest =>
  obtain ⟨rfl, rfl⟩ := hcut
  cases hv : ((f8 == 0) && (!noneS f9 || !noneS f10 || (f11 != 0) || (f12 != 0))) with
  | true =>
   have HX : Aside0 (bareB ⟨f0, f1, f2, f3, f4, f5, f6, f7, f8, f9, f10, f11, f12, f13, f14, f15, f16⟩ = false) := ⟨by rw [HBR.out, hv]; rfl⟩
   clear hv HBR
   go_wp2
   go_ret
   exact ⟨by rw [HX.out]; rfl, HW.out⟩
  | false =>
   rw [hv] at HBR
   clear hv
   go_upto_region 3 with (fail)
   go_cut [27] from 1 to 0 (fun v27 wx => wx = wc ∧ v27 = .bool ((f8 != 1) && !noneS f13))
   case first =>
    by_cases h8 : f8 = 1
    ·have e8 : (f8 != 1) = false := by rw [h8]; rfl
     clear h8
     go_wp2
     all_goals go_meet
     all_goals exact ⟨rfl, by simp [noneS, *] <;> (cases f13.toList <;> simp)⟩
    ·have e8 : (f8 != 1) = true := bne_iff_ne.2 h8
     clear h8
     go_wp2
     all_goals go_meet
     all_goals exact ⟨rfl, by simp [noneS, *] <;> (cases f13.toList <;> simp)⟩
   case rest =>
    obtain ⟨rfl, rfl⟩ := hcut
    cases hv : ((f8 != 1) && !noneS f13) with
    | true =>
     have HX : Aside0 (bareB ⟨f0, f1, f2, f3, f4, f5, f6, f7, f8, f9, f10, f11, f12, f13, f14, f15, f16⟩ = false) := ⟨by rw [HBR.out, hv]; rfl⟩
     clear hv HBR
     go_wp2
     go_ret
     exact ⟨by rw [HX.out]; rfl, HW.out⟩
    | false =>
     rw [hv] at HBR
     clear hv
     go_upto_region 5 with (fail)
     go_cut [2] from 1 to 0 (fun v2 wx => wx = wc ∧ v2 = .bool ((f6 == 83) || (decide (f14.length = 0) && !f15 && (f16 == 0))))
     case first =>
      by_cases h6 : f6 = 83
      ·have e6 : (f6 == 83) = true := beq_iff_eq.2 h6
       clear h6
       go_wp2
       all_goals go_meet
       all_goals exact ⟨rfl, by simp [*]⟩
      ·have e6 : (f6 == 83) = false := beq_eq_false_iff_ne.2 h6
       obtain ⟨n, hn⟩ : ∃ n, n = f14.length := ⟨_, rfl⟩
       rw [← hn] at c14_
       have HN := Aside0.mk hn
       clear h6 hn
       by_cases h14 : n = 0
       ·have e14 : ((n : Int) == 0) = true := beq_iff_eq.2 (by omega)
        have HZ := Aside0.mk h14
        clear h14
        cases f15 <;> (go_wp2; all_goals go_meet; all_goals exact ⟨rfl, by rw [← HN.out, HZ.out]; simp [*]⟩)
       ·have e14 : ((n : Int) == 0) = false := beq_eq_false_iff_ne.2 (by omega)
        have HZ := Aside0.mk h14
        clear h14
        go_wp2
        all_goals go_meet
        all_goals exact ⟨rfl, by rw [← HN.out, decide_eq_false HZ.out]; simp [*]⟩
     case rest =>
      obtain ⟨rfl, rfl⟩ := hcut
      go_wp2
      go_ret
      exact ⟨by rw [HBR.out]; rfl, HW.out⟩
end Go.Proofs.YtkfcfbggojmfkaaGreatDoor.P
end

section
namespace Go.Proofs.YtkfcfbggojmfkaaGreatDoor.P
open Go Go.RowKit Go.Proofs.YtkfcfbggojmfkaaGreatDoorW.PrintWords Go.Proofs.YtkfcfbggojmfkaaGreatDoorW.PrintLast Go.Proofs.YtkfcfbggojmfkaaGreatDoorW.PrintMore
set_option linter.unusedVariables false
set_option linter.unusedSimpArgs false

inductive QRes
 | err (n : Int)
 | ok (l : List Int)
def txtOf (h : S31) (idx : Nat) : ByteArray := if idx = 0 then h.f0 else if idx = 7 then h.f7 else if idx = 9 then h.f9 else if idx = 10 then h.f10 else h.f13
def numOf (h : S31) (idx : Nat) : Int := if idx = 1 then h.f1 else if idx = 2 then h.f2 else if idx = 3 then h.f3 else if idx = 4 then h.f4 else if idx = 5 then h.f5 else if idx = 11 then h.f11 else if idx = 12 then h.f12 else h.f16
def textsP (h : S31) : List (Nat × Nat × Nat) → List Int → Option (List Int)
 | [], b => some b
 | t :: ts, b => if (sputF (txtOf h t.2.2) (t.2.1 : Int)).2 = true then textsP h ts (if (txtOf h t.2.2).toList = [] then b else splice b t.1 (sputF (txtOf h t.2.2) (t.2.1 : Int)).1) else none
def okN (x : Int) (wd : Nat) (lo hi : Int) : Prop := (putF x (wd : Int)).2 = true ∧ lo ≤ x ∧ x ≤ hi
instance (x : Int) (wd : Nat) (lo hi : Int) : Decidable (okN x wd lo hi) := by unfold okN; infer_instance
def numsP (h : S31) : List (Nat × Nat × Nat × Int × Int) → List Int → Option (List Int)
 | [], b => some b
 | t :: ts, b => if okN (numOf h t.2.2.1) t.2.1 t.2.2.2.1 t.2.2.2.2 then numsP h ts (splice b t.1 (putF (numOf h t.2.2.1) (t.2.1 : Int)).1) else none
def partsP : List S64 → Nat → List Int → Option (List Int)
 | [], _, b => some b
 | x :: xs, i, b => if okN x.f0 12 0 4611686018427387904 then (if okN x.f1 12 0 4611686018427387904 then partsP xs (i + 1) (splice (splice b (386 + i * 24) (putF x.f0 12).1) (386 + i * 24 + 12) (putF x.f1 12).1) else none) else none
def magicB (way : Int) : ByteArray := if way = 0 then magic0 else if way = 1 then magic1 else magic2
def headKB (h : S31) : Bool := knownB h.f6 && (!(h.f6 == 83) || (h.f8 == 2))
def zeroPart (x : S64) : Bool := (x.f0 == 0) && (x.f1 == 0)
def headFB (h : S31) : Bool := decide (0 ≤ h.f8) && decide (h.f8 ≤ 2) && bareB h && decide (h.f14.length ≤ 4) && !(h.f14.any zeroPart)
def finB (h : S31) (b : List Int) : List Int := if h.f15 = true then (splice (b.set 156 h.f6) 257 (numsL (magicB h.f8))).set 482 1 else splice (b.set 156 h.f6) 257 (numsL (magicB h.f8))
def printO (h : S31) : QRes :=
 if headKB h = false then .err 31 else
 match textsP h (textsL 1) (List.replicate 512 0) with
 | none => .err 33
 | some b => if headFB h = false then .err 32 else
  match numsP h (numbersL h.f8 h.f6) b with
  | none => .err 32
  | some b => match partsP h.f14 0 b with
   | none => .err 32
   | some b => .ok (sealF (finB h b))
def PrintPost (h : S31) (w : World) (e : Ending) (w' : World) : Prop :=
 Below w.heap.size w w' ∧ match printO h with
 | .err n => e = .panicked [pan n false]
 | .ok l => ∃ v, e = .returned v ∧ Kd.R (Kd.int .u8) 97 w' w.heap.size (fun _ => True) v l
structure Blk (b : List Int) : Prop where
 len : b.length = 512
 bytes : Bytes b
theorem Blk.zero : Blk (List.replicate 512 0) := ⟨List.length_replicate, Bytes.replicate 512⟩
theorem Blk.splice {b : List Int} (h : Blk b) (at_ : Nat) (f : List Int) (hf : Bytes f) (hl : at_ + f.length ≤ 512) : Blk (splice b at_ f) := by
 refine ⟨by rw [length_splice _ _ _ (by rw [h.len]; exact hl)]; exact h.len, fun x hx => ?_⟩
 unfold Go.splice at hx
 rcases List.mem_append.1 hx with hx | hx
 ·exact h.bytes x (List.mem_of_mem_take hx)
 ·rcases List.mem_append.1 hx with hx | hx
  ·exact hf x hx
  ·exact h.bytes x (List.mem_of_mem_drop hx)
theorem Blk.set {b : List Int} (h : Blk b) (i : Nat) (v : Int) (hv : 0 ≤ v ∧ v < 256) : Blk (b.set i v) := ⟨by rw [List.length_set]; exact h.len, h.bytes.set i v hv⟩
theorem numsL_byte (s : ByteArray) : Bytes (numsL s) := fun x hx => by
 unfold numsL at hx
 obtain ⟨b, _, rfl⟩ := List.mem_map.1 hx
 have := b.toNat_lt
 omega
theorem sput_ok (s : ByteArray) (wd : Nat) (h : (sputF s (wd : Int)).2 = true) : (sputF s (wd : Int)).1.length = wd ∧ Bytes (sputF s (wd : Int)).1 := by
 unfold sputF at h ⊢
 split at h
 ·cases h
 ·rename_i hc
  have h1 : s.size ≤ wd := by
   rcases Nat.lt_or_ge wd s.size with h2 | h2
   ·exact absurd (.inl (by omega)) hc
   ·exact h2
  rw [if_neg hc]
  refine ⟨?_, (numsL_byte s).append (Bytes.replicate _)⟩
  show (numsL s ++ List.replicate ((wd : Int).toNat - s.size) 0).length = wd
  rw [List.length_append, numsL_length, List.length_replicate]
  omega
theorem put_ok (x : Int) (wd : Nat) (hw : wd = 8 ∨ wd = 12) (hi : x ≤ 4611686018427387904) (h : (putF x (wd : Int)).2 = true) : (putF x (wd : Int)).1.length = wd ∧ Bytes (putF x (wd : Int)).1 ∧ parseF (putF x (wd : Int)).1 = (x, true) := by
 rcases hw with rfl | rfl
 ·have h1 := put_parse x 6 (by omega) hi h
  exact ⟨h1.1, put_bytes x 6 (by omega) hi, h1.2⟩
 ·have h1 := put_parse x 10 (by omega) hi h
  exact ⟨h1.1, put_bytes x 10 (by omega) hi, h1.2⟩
def NumOk (t : Nat × Nat × Nat × Int × Int) : Prop := t.1 + t.2.1 ≤ 512 ∧ (t.2.1 = 8 ∨ t.2.1 = 12) ∧ t.2.2.2.2 ≤ 4611686018427387904 ∧ (t.2.2.1 = 1 ∨ t.2.2.1 = 2 ∨ t.2.2.1 = 3 ∨ t.2.2.1 = 4 ∨ t.2.2.1 = 5 ∨ t.2.2.1 = 11 ∨ t.2.2.1 = 12 ∨ t.2.2.1 = 16)
theorem numbersL_num (way kind : Int) : ∀ t ∈ numbersL way kind, NumOk t := by
 intro t ht
 unfold numbersL at ht
 simp only [List.mem_append, List.mem_cons, List.mem_nil_iff, or_false] at ht
 unfold NumOk
 rcases ht with (ht | ht) | ht
 ·rcases ht with rfl | rfl | rfl | rfl | rfl <;> decide
 ·split at ht
  ·cases ht
  ·simp only [List.mem_cons, List.mem_nil_iff, or_false] at ht
   rcases ht with rfl | rfl <;> decide
 ·split at ht
  ·simp only [List.mem_cons, List.mem_nil_iff, or_false] at ht
   subst ht
   decide
  ·cases ht
def TxtOk (t : Nat × Nat × Nat) : Prop := t.1 + t.2.1 ≤ 512 ∧ (t.2.2 = 0 ∨ t.2.2 = 7 ∨ t.2.2 = 9 ∨ t.2.2 = 10 ∨ t.2.2 = 13)
theorem textsL_txt : ∀ t ∈ textsL 1, TxtOk t := by
 intro t ht
 unfold textsL at ht
 simp at ht
 unfold TxtOk
 rcases ht with rfl | rfl | rfl | rfl | rfl <;> decide
theorem cell_txt (h : S31) (v : Value) (idx : Nat) (hi : idx = 0 ∨ idx = 7 ∨ idx = 9 ∨ idx = 10 ∨ idx = 13) : (cells25 h v)[idx]? = some (.string (txtOf h idx)) := by
 rcases hi with rfl | rfl | rfl | rfl | rfl <;> rfl
theorem cell_num (h : S31) (v : Value) (idx : Nat) (hi : idx = 1 ∨ idx = 2 ∨ idx = 3 ∨ idx = 4 ∨ idx = 5 ∨ idx = 11 ∨ idx = 12 ∨ idx = 16) : (cells25 h v)[idx]? = some (.int .i64 (numOf h idx)) := by
 rcases hi with rfl | rfl | rfl | rfl | rfl | rfl | rfl | rfl <;> rfl
theorem known_byte {x : Int} (h : knownB x = true) : 0 ≤ x ∧ x < 256 := by
 unfold knownB at h
 simp at h
 omega
theorem magic_len (way : Int) : (numsL (magicB way)).length = 8 := by
 unfold magicB
 split
 ·rfl
 ·split <;> rfl
theorem Blk.fin {h : S31} {b : List Int} (hb : Blk b) (hk : knownB h.f6 = true) : Blk (finB h b) := by
 have h1 : Blk (Go.splice (b.set 156 h.f6) 257 (numsL (magicB h.f8))) := (hb.set 156 h.f6 (known_byte hk)).splice 257 _ (numsL_byte _) (by rw [magic_len]; omega)
 unfold finB
 split
 ·exact h1.set 482 1 (by omega)
 ·exact h1
theorem po_kind {h : S31} (h1 : headKB h = false) : printO h = .err 31 := by unfold printO; rw [if_pos h1]
theorem po_text {h : S31} (h1 : headKB h = true) (h2 : textsP h (textsL 1) (List.replicate 512 0) = none) : printO h = .err 33 := by unfold printO; rw [if_neg (by rw [h1]; simp), h2]
theorem po_fit {h : S31} {b : List Int} (h1 : headKB h = true) (h2 : textsP h (textsL 1) (List.replicate 512 0) = some b) (h3 : headFB h = false) : printO h = .err 32 := by
 unfold printO
 rw [if_neg (by rw [h1]; simp), h2]
 exact if_pos h3
theorem po_num {h : S31} {b : List Int} (h1 : headKB h = true) (h2 : textsP h (textsL 1) (List.replicate 512 0) = some b) (h3 : headFB h = true) (h4 : numsP h (numbersL h.f8 h.f6) b = none) : printO h = .err 32 := by
 unfold printO
 rw [if_neg (by rw [h1]; simp), h2]
 simp only []
 rw [if_neg (by rw [h3]; simp), h4]
theorem po_part {h : S31} {b c : List Int} (h1 : headKB h = true) (h2 : textsP h (textsL 1) (List.replicate 512 0) = some b) (h3 : headFB h = true) (h4 : numsP h (numbersL h.f8 h.f6) b = some c) (h5 : partsP h.f14 0 c = none) : printO h = .err 32 := by
 unfold printO
 rw [if_neg (by rw [h1]; simp), h2]
 simp only []
 rw [if_neg (by rw [h3]; simp), h4]
 simp only []
 rw [h5]
theorem po_all {h : S31} {b c d : List Int} (h1 : headKB h = true) (h2 : textsP h (textsL 1) (List.replicate 512 0) = some b) (h3 : headFB h = true) (h4 : numsP h (numbersL h.f8 h.f6) b = some c) (h5 : partsP h.f14 0 c = some d) : printO h = .ok (sealF (finB h d)) := by
 unfold printO
 rw [if_neg (by rw [h1]; simp), h2]
 simp only []
 rw [if_neg (by rw [h3]; simp), h4]
 simp only []
 rw [h5]
theorem pr_err {h : S31} {w w' : World} {n : Int} (he : printO h = .err n) (hb : Below w.heap.size w w') : PrintPost h w (.panicked [pan n false]) w' := by
 unfold PrintPost
 rw [he]
 exact ⟨hb, rfl⟩
end Go.Proofs.YtkfcfbggojmfkaaGreatDoor.P
end
