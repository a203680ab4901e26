/- head.texts and head.numbers: the rows that they hand back, by the header's way and kind. No conditions. -/
import Derived.Test.YtkfcfbggojmfkaaGreatDoorHHeadD
import Derived.Test.YtkfcfbggojmfkaaGreatDoorWMore
import Derived.Test.YtkfcfbggojmfkaaGreatDoorWLast
import Derived.Deep.RegionHeld3
import Derived.Deep.DrawnRows
import Derived.Deep.RegionLaw
import Derived.Maps.AppendAt
namespace Go.Proofs.YtkfcfbggojmfkaaGreatDoor.P
open Go Go.RowKit Go.Proofs.YtkfcfbggojmfkaaGreatDoorW.PrintWords Go.Proofs.YtkfcfbggojmfkaaGreatDoorW.PrintLast Go.Proofs.YtkfcfbggojmfkaaGreatDoorW.PrintMore
set_option linter.unusedVariables false
set_option linter.unusedSimpArgs false

def tcell (g : Nat) (t : Nat × Nat × Nat) : List Value := [.int .i64 t.1, .int .i64 t.2.1, .pointer (some ⟨g, t.2.2, none⟩)]
def textsL (way : Int) : List (Nat × Nat × Nat) := [(0, 100, 0), (157, 100, 7)] ++ (if way = 0 then [] else [(265, 32, 9), (297, 32, 10)]) ++ (if way = 1 then [(345, 155, 13)] else [])
def ncell (g : Nat) (t : Nat × Nat × Nat × Int × Int) : List Value := [.int .i64 t.1, .int .i64 t.2.1, .pointer (some ⟨g, t.2.2.1, none⟩), .int .i64 t.2.2.2.1, .int .i64 t.2.2.2.2]
def numbersL (way kind : Int) : List (Nat × Nat × Nat × Int × Int) := [(100, 8, 1, 0, 4611686018427387904), (108, 8, 2, 0, 4611686018427387904), (116, 8, 3, 0, 4611686018427387904), (124, 12, 4, 0, 1099511627776), (136, 12, 5, -4611686018427387904, 4611686018427387904)] ++ (if way = 0 then [] else [(329, 8, 11, 0, 4611686018427387904), (337, 8, 12, 0, 4611686018427387904)]) ++ (if kind = 83 then [(483, 12, 16, 0, 1099511627776)] else [])
theorem row_of_alloc (w : World) (cs : Array Value) (t : TypeId) : (w.alloc (.cells cs t)).drew.heap[w.heap.size]? = some (.cells cs t (0, 0)) := by
 show (w.heap.push _)[w.heap.size]? = _
 rw [Array.getElem?_push, if_pos rfl]
theorem row2_alloc (w : World) (cs : Array Value) (t : TypeId) : (w.alloc (.cells cs t)).heap[w.heap.size]? = some (.cells cs t (0, 0)) := by
 show (w.heap.push _)[w.heap.size]? = _
 rw [Array.getElem?_push, if_pos rfl]
theorem step_append_rows {P : Program} {ops : Array Oper} {o : Oper} {a : Act} {K : Act → World → Prop} {Q : Exit → Act → World → Prop} {V w0 : World} {E : Prop} (base : Nat) (hg : o.guard = none) (s x : Operand) (t e : TypeId) (z : Value) (size bytes : Nat)
  (ho : o.op = .call { callee := .builtin .append, args := #[s, x], argTypes := #[t, t] })
  (ht : P.underlying t = some (.slice e)) (hinfo : (P.info? e).map (fun i => (i.zero, i.size, i.bytes)) = some (some z, size, bytes)) (hz : z.cells.size = size) (hs0 : 0 < size)
  (v : Value) (n : Nat) (xs : List Value) (hs : a.eval s = v) (HO : V.ownsRow base e size v n xs) (ad : Addr) (m c : Nat) (ys : List Value) (hx : a.eval x = .slice (some ad) m c) (hys : ys.length = m * size)
  (hnews : ∀ j u, ys[j]? = some u → V.cell? (ad.add j) = some u) (h1 : ∀ u ∈ ys, u.oneCell' = true) (h63 : n + m ≤ maxLen) (hl : (n + m) * bytes ≤ 140737488355328) (hbase : base ≤ V.heap.size) (HB : Below base w0 V)
  (h : ∀ v1 w1, w1.ownsRow base e size v1 (n + m) (xs ++ ys) → Below base w0 w1 → V.heap.size ≤ w1.heap.size → K (a.put o.dst v1) w1) :
  if Region.wanted o (yielded ops a.tmps) = true then Oper.wp P o a V K Q else E := by
 have hw : Region.wanted o (yielded ops a.tmps) = true := by simp [Region.wanted, hg]
 obtain ⟨i0, hi, hzz⟩ := Option.map_eq_some_iff.1 hinfo
 simp only [Prod.mk.injEq] at hzz
 obtain ⟨hz0, hz1, hz2⟩ := hzz
 rw [if_pos hw]
 obtain ⟨v1, w1, hr, hown, hgr, _, _⟩ := run_append_own_at (P := P) V base t o.type e i0 z size bytes ht hi hz0 hz1 hz2 hz hs0 v n xs HO ad m c ys hys hnews h1 h63 hl hbase
 unfold Oper.wp execOp
 simp only [ho, resolve, invoke, builtin, Sem.run_bind, Sem.run_pure, Result.andThen_ok, List.map_toArray, List.map_cons, List.map_nil, hs, hx, hr]
 exact h v1 w1 hown (HB.grown hgr hbase (own_base HO)) hgr.size
theorem own_of_block {W : World} {base g e size n : Nat} (cs : List Value) (hg : W.heap[g]? = some (.cells cs.toArray e (0, 0))) (hb : base ≤ g) (hl : cs.length = n * size) (hm : n ≤ maxLen) : W.ownsRow base e size (.slice (some ⟨g, 0, none⟩) n n) n cs :=
 ⟨hl, .inr ⟨g, n, _, rfl, hb, hg, Nat.le_refl _, hm, by simpa using hl, by rw [← hl]; exact List.take_of_length_le (Nat.le_refl _)⟩⟩
theorem news_block {W : World} {g e : Nat} (ys : List Value) (hg : W.heap[g]? = some (.cells ys.toArray e (0, 0))) : ∀ j u, ys[j]? = some u → W.cell? ((⟨g, 0, none⟩ : Addr).add j) = some u := fun j u hj => by
 rw [show ((⟨g, 0, none⟩ : Addr).add j) = ⟨g, j, none⟩ by simp [Addr.add]; try omega]
 refine (blk_cell hg j).trans ?_
 rw [← hj]
 simp
theorem zero_text : (Tryz.prog.info? 93).map (fun i => (i.zero, i.size, i.bytes)) = some (some (.agg #[.int .i64 0, .int .i64 0, .pointer none]), 3, 24) := by kernel_rfl
theorem zero_number : (Tryz.prog.info? 86).map (fun i => (i.zero, i.size, i.bytes)) = some (some (.agg #[.int .i64 0, .int .i64 0, .pointer none, .int .i64 0, .int .i64 0]), 5, 40) := by kernel_rfl
def TextsPost (g : Nat) (way : Int) (w : World) (e : Ending) (w' : World) : Prop := ∃ v, e = .returned v ∧ w'.ownsRow w.heap.size 93 3 v (textsL way).length ((textsL way).map (tcell g)).flatten ∧ Below w.heap.size w w'
def NumbersPost (g : Nat) (way kind : Int) (w : World) (e : Ending) (w' : World) : Prop := ∃ v, e = .returned v ∧ w'.ownsRow w.heap.size 86 5 v (numbersL way kind).length ((numbersL way kind).map (ncell g)).flatten ∧ Below w.heap.size w w'
set_option maxRecDepth 100000 in
set_option maxHeartbeats 4000000 in
theorem texts_old (g : Nat) (way : Int) (cs : Array Value) (w : World) (hg : w.heap[g]? = some (.cells cs 31 (0, 0))) (h8 : cs[8]? = some (.int .i64 way)) (hn : way = 0) (h1 : ¬ way = 1) :
  Calls Tryz.prog 62 #[.pointer (some ⟨g, 0, none⟩)] w (TextsPost g way w) := by
 have hc8 : w.cell? ⟨g, 8, none⟩ = some (.int .i64 way) := (blk_cell hg 8).trans h8
 have n0 : (way != 0) = false := by rw [hn]; rfl
 have n1 : (way == 1) = false := beq_eq_false_iff_ne.2 h1
 have HN := Aside0.mk hn
 have H1 := Aside0.mk h1
 have HC8 := Aside0.mk hc8
 obtain ⟨i0, hi, hz0, hz1, hz2⟩ := info_parts zero_text
 clear hn h1 hg h8 hc8
 go_enter Tryz.func62, Tryz.ntmps62
 go_wp2
 go_region_held3 (fun w' => True) (trivial) (fail)
 have hB1 : Below w.heap.size w (w.alloc (.cells #[.int .i64 0, .int .i64 100, .pointer (some ⟨g, 0, none⟩), .int .i64 157, .int .i64 100, .pointer (some ⟨g, 7, none⟩)] 93)).drew := below_drew (below_alloc (Below.refl w.heap.size w) _)
 have hr1 := row_of_alloc w #[.int .i64 0, .int .i64 100, .pointer (some ⟨g, 0, none⟩), .int .i64 157, .int .i64 100, .pointer (some ⟨g, 7, none⟩)] 93
 generalize (w.alloc (.cells #[.int .i64 0, .int .i64 100, .pointer (some ⟨g, 0, none⟩), .int .i64 157, .int .i64 100, .pointer (some ⟨g, 7, none⟩)] 93)).drew = w1 at hB1 hr1 ⊢
 have hc1 : w1.cell? ⟨g, 8, none⟩ = some (.int .i64 way) := pw_cell_below hB1 HC8.out
 have HB1 := Aside0.mk hB1
 have HO1 : Aside0 (w1.ownsRow w.heap.size 93 3 (.slice (some ⟨w.heap.size, 0, none⟩) 2 2) 2 [.int .i64 0, .int .i64 100, .pointer (some ⟨g, 0, none⟩), .int .i64 157, .int .i64 100, .pointer (some ⟨g, 7, none⟩)]) := ⟨own_of_block _ hr1 (Nat.le_refl _) rfl (by decide)⟩
 clear hB1 hr1
 go_wp2
 go_ret
 refine ⟨_, rfl, ?_, HB1.out⟩
 have e_ : textsL way = textsL 0 := by unfold textsL; rw [if_pos HN.out]; rw [if_neg H1.out]; rfl
 rw [e_]
 exact HO1.out
set_option maxRecDepth 100000 in
set_option maxHeartbeats 4000000 in
theorem texts_more (g : Nat) (way : Int) (cs : Array Value) (w : World) (hg : w.heap[g]? = some (.cells cs 31 (0, 0))) (h8 : cs[8]? = some (.int .i64 way)) (hn : ¬ way = 0) (h1 : ¬ way = 1) :
  Calls Tryz.prog 62 #[.pointer (some ⟨g, 0, none⟩)] w (TextsPost g way w) := by
 have hc8 : w.cell? ⟨g, 8, none⟩ = some (.int .i64 way) := (blk_cell hg 8).trans h8
 have n0 : (way != 0) = true := bne_iff_ne.2 hn
 have n1 : (way == 1) = false := beq_eq_false_iff_ne.2 h1
 have HN := Aside0.mk hn
 have H1 := Aside0.mk h1
 have HC8 := Aside0.mk hc8
 obtain ⟨i0, hi, hz0, hz1, hz2⟩ := info_parts zero_text
 clear hn h1 hg h8 hc8
 go_enter Tryz.func62, Tryz.ntmps62
 go_wp2
 go_region_held3 (fun w' => True) (trivial) (fail)
 have hB1 : Below w.heap.size w (w.alloc (.cells #[.int .i64 0, .int .i64 100, .pointer (some ⟨g, 0, none⟩), .int .i64 157, .int .i64 100, .pointer (some ⟨g, 7, none⟩)] 93)).drew := below_drew (below_alloc (Below.refl w.heap.size w) _)
 have hr1 := row_of_alloc w #[.int .i64 0, .int .i64 100, .pointer (some ⟨g, 0, none⟩), .int .i64 157, .int .i64 100, .pointer (some ⟨g, 7, none⟩)] 93
 generalize (w.alloc (.cells #[.int .i64 0, .int .i64 100, .pointer (some ⟨g, 0, none⟩), .int .i64 157, .int .i64 100, .pointer (some ⟨g, 7, none⟩)] 93)).drew = w1 at hB1 hr1 ⊢
 have hc1 : w1.cell? ⟨g, 8, none⟩ = some (.int .i64 way) := pw_cell_below hB1 HC8.out
 have HB1 := Aside0.mk hB1
 have HO1 : Aside0 (w1.ownsRow w.heap.size 93 3 (.slice (some ⟨w.heap.size, 0, none⟩) 2 2) 2 [.int .i64 0, .int .i64 100, .pointer (some ⟨g, 0, none⟩), .int .i64 157, .int .i64 100, .pointer (some ⟨g, 7, none⟩)]) := ⟨own_of_block _ hr1 (Nat.le_refl _) rfl (by decide)⟩
 clear hB1 hr1
 go_wp2
 go_region_law ((refine step_append_rows (w0 := w) w.heap.size rfl _ _ 89 93 (.agg #[.int .i64 0, .int .i64 0, .pointer none]) 3 24 rfl Tryz.underlying89 zero_text rfl (by decide) _ 2 [.int .i64 0, .int .i64 100, .pointer (some ⟨g, 0, none⟩), .int .i64 157, .int .i64 100, .pointer (some ⟨g, 7, none⟩)] rfl (pw_own_below HO1.out (by repeat (first | with_reducible exact Below.refl _ _ | with_reducible refine below_drew ?_ | with_reducible refine below_alloc ?_ _))) ⟨w1.heap.size, 0, none⟩ 2 2 [.int .i64 265, .int .i64 32, .pointer (some ⟨g, 9, none⟩), .int .i64 297, .int .i64 32, .pointer (some ⟨g, 10, none⟩)] rfl rfl (news_block _ (by first | exact row2_alloc _ _ _ | exact row_of_alloc _ _ _)) (by simp [Value.oneCell']) (by decide) (by decide) (by have := HB1.out.size; simp; omega) (by repeat (first | with_reducible exact HB1.out | with_reducible refine below_drew ?_ | with_reducible refine below_alloc ?_ _)) ?_); intro v1 w2 hO2 hB2 hS2; have hc2 : w2.cell? ⟨g, 8, none⟩ = some (.int .i64 way) := pw_cell_below hB2 HC8.out; have HO2 : Aside0 (w2.ownsRow w.heap.size 93 3 v1 4 (((textsL 2).map (tcell g)).flatten)) := ⟨hO2⟩; have HB2 := Aside0.mk hB2; clear hO2 hB2)
 go_wp2
 go_ret
 refine ⟨_, rfl, ?_, HB2.out⟩
 have e_ : textsL way = textsL 2 := by unfold textsL; rw [if_neg HN.out]; rw [if_neg H1.out]; rfl
 rw [e_]
 exact HO2.out
set_option maxRecDepth 100000 in
set_option maxHeartbeats 4000000 in
theorem texts_more_last (g : Nat) (way : Int) (cs : Array Value) (w : World) (hg : w.heap[g]? = some (.cells cs 31 (0, 0))) (h8 : cs[8]? = some (.int .i64 way)) (hn : ¬ way = 0) (h1 : way = 1) :
  Calls Tryz.prog 62 #[.pointer (some ⟨g, 0, none⟩)] w (TextsPost g way w) := by
 have hc8 : w.cell? ⟨g, 8, none⟩ = some (.int .i64 way) := (blk_cell hg 8).trans h8
 have n0 : (way != 0) = true := bne_iff_ne.2 hn
 have n1 : (way == 1) = true := beq_iff_eq.2 h1
 have HN := Aside0.mk hn
 have H1 := Aside0.mk h1
 have HC8 := Aside0.mk hc8
 obtain ⟨i0, hi, hz0, hz1, hz2⟩ := info_parts zero_text
 clear hn h1 hg h8 hc8
 go_enter Tryz.func62, Tryz.ntmps62
 go_wp2
 go_region_held3 (fun w' => True) (trivial) (fail)
 have hB1 : Below w.heap.size w (w.alloc (.cells #[.int .i64 0, .int .i64 100, .pointer (some ⟨g, 0, none⟩), .int .i64 157, .int .i64 100, .pointer (some ⟨g, 7, none⟩)] 93)).drew := below_drew (below_alloc (Below.refl w.heap.size w) _)
 have hr1 := row_of_alloc w #[.int .i64 0, .int .i64 100, .pointer (some ⟨g, 0, none⟩), .int .i64 157, .int .i64 100, .pointer (some ⟨g, 7, none⟩)] 93
 generalize (w.alloc (.cells #[.int .i64 0, .int .i64 100, .pointer (some ⟨g, 0, none⟩), .int .i64 157, .int .i64 100, .pointer (some ⟨g, 7, none⟩)] 93)).drew = w1 at hB1 hr1 ⊢
 have hc1 : w1.cell? ⟨g, 8, none⟩ = some (.int .i64 way) := pw_cell_below hB1 HC8.out
 have HB1 := Aside0.mk hB1
 have HO1 : Aside0 (w1.ownsRow w.heap.size 93 3 (.slice (some ⟨w.heap.size, 0, none⟩) 2 2) 2 [.int .i64 0, .int .i64 100, .pointer (some ⟨g, 0, none⟩), .int .i64 157, .int .i64 100, .pointer (some ⟨g, 7, none⟩)]) := ⟨own_of_block _ hr1 (Nat.le_refl _) rfl (by decide)⟩
 clear hB1 hr1
 go_wp2
 go_region_law ((refine step_append_rows (w0 := w) w.heap.size rfl _ _ 89 93 (.agg #[.int .i64 0, .int .i64 0, .pointer none]) 3 24 rfl Tryz.underlying89 zero_text rfl (by decide) _ 2 [.int .i64 0, .int .i64 100, .pointer (some ⟨g, 0, none⟩), .int .i64 157, .int .i64 100, .pointer (some ⟨g, 7, none⟩)] rfl (pw_own_below HO1.out (by repeat (first | with_reducible exact Below.refl _ _ | with_reducible refine below_drew ?_ | with_reducible refine below_alloc ?_ _))) ⟨w1.heap.size, 0, none⟩ 2 2 [.int .i64 265, .int .i64 32, .pointer (some ⟨g, 9, none⟩), .int .i64 297, .int .i64 32, .pointer (some ⟨g, 10, none⟩)] rfl rfl (news_block _ (by first | exact row2_alloc _ _ _ | exact row_of_alloc _ _ _)) (by simp [Value.oneCell']) (by decide) (by decide) (by have := HB1.out.size; simp; omega) (by repeat (first | with_reducible exact HB1.out | with_reducible refine below_drew ?_ | with_reducible refine below_alloc ?_ _)) ?_); intro v1 w2 hO2 hB2 hS2; have hc2 : w2.cell? ⟨g, 8, none⟩ = some (.int .i64 way) := pw_cell_below hB2 HC8.out; have HO2 : Aside0 (w2.ownsRow w.heap.size 93 3 v1 4 (((textsL 2).map (tcell g)).flatten)) := ⟨hO2⟩; have HB2 := Aside0.mk hB2; clear hO2 hB2)
 go_wp2_with (at_builtin; refine wpList_append_own _ rfl _ _ 89 rfl w.heap.size 93 i0 (.agg #[.int .i64 0, .int .i64 0, .pointer none]) 3 24 Tryz.underlying89 hi hz0 hz1 hz2 rfl (by decide) _ 4 _ rfl (pw_own_below HO2.out (by repeat (first | with_reducible exact Below.refl _ _ | with_reducible refine below_drew ?_ | with_reducible refine below_alloc ?_ _))) ⟨w2.heap.size, 0, none⟩ 1 1 [.int .i64 345, .int .i64 155, .pointer (some ⟨g, 13, none⟩)] rfl rfl (news_block _ (by first | exact row2_alloc _ _ _ | exact row_of_alloc _ _ _)) (by simp [Value.oneCell']) (by decide) (by decide) (by have := HB2.out.size; simp; omega) ?_; intro v2 w3 hO3 hg3 _; have HO3 := Aside0.mk hO3; have HB3 := Aside0.mk ((below_alloc HB2.out _).grown hg3 (by have := HB2.out.size; simp; omega) (fun k e => own_base HO2.out k e)); clear hO3 hg3)
 go_ret
 refine ⟨v2, rfl, ?_, HB3.out⟩
 have e_ : textsL way = textsL 1 := by rw [H1.out]
 rw [e_]
 exact HO3.out
set_option maxRecDepth 100000 in
set_option maxHeartbeats 4000000 in
theorem numbers_old (g : Nat) (way kind : Int) (cs : Array Value) (w : World) (hg : w.heap[g]? = some (.cells cs 31 (0, 0))) (h8 : cs[8]? = some (.int .i64 way)) (h6 : cs[6]? = some (.int .u8 kind)) (hn : way = 0) (h1 : ¬ kind = 83) :
  Calls Tryz.prog 59 #[.pointer (some ⟨g, 0, none⟩)] w (NumbersPost g way kind w) := by
 have hc8 : w.cell? ⟨g, 8, none⟩ = some (.int .i64 way) := (blk_cell hg 8).trans h8
 have hc6 : w.cell? ⟨g, 6, none⟩ = some (.int .u8 kind) := (blk_cell hg 6).trans h6
 have n0 : (way != 0) = false := by rw [hn]; rfl
 have n1 : (kind == 83) = false := beq_eq_false_iff_ne.2 h1
 have HN := Aside0.mk hn
 have H1 := Aside0.mk h1
 have HC8 := Aside0.mk hc8
 have HC6 := Aside0.mk hc6
 obtain ⟨i0, hi, hz0, hz1, hz2⟩ := info_parts zero_number
 clear hn h1 hg h8 hc8 h6 hc6
 go_enter Tryz.func59, Tryz.ntmps59
 go_wp2
 go_region_held3 (fun w' => True) (trivial) (fail)
 have hB1 : Below w.heap.size w (w.alloc (.cells #[.int .i64 100, .int .i64 8, .pointer (some ⟨g, 1, none⟩), .int .i64 0, .int .i64 4611686018427387904, .int .i64 108, .int .i64 8, .pointer (some ⟨g, 2, none⟩), .int .i64 0, .int .i64 4611686018427387904, .int .i64 116, .int .i64 8, .pointer (some ⟨g, 3, none⟩), .int .i64 0, .int .i64 4611686018427387904, .int .i64 124, .int .i64 12, .pointer (some ⟨g, 4, none⟩), .int .i64 0, .int .i64 1099511627776, .int .i64 136, .int .i64 12, .pointer (some ⟨g, 5, none⟩), .int .i64 (-4611686018427387904), .int .i64 4611686018427387904] 86)).drew := below_drew (below_alloc (Below.refl w.heap.size w) _)
 have hr1 := row_of_alloc w #[.int .i64 100, .int .i64 8, .pointer (some ⟨g, 1, none⟩), .int .i64 0, .int .i64 4611686018427387904, .int .i64 108, .int .i64 8, .pointer (some ⟨g, 2, none⟩), .int .i64 0, .int .i64 4611686018427387904, .int .i64 116, .int .i64 8, .pointer (some ⟨g, 3, none⟩), .int .i64 0, .int .i64 4611686018427387904, .int .i64 124, .int .i64 12, .pointer (some ⟨g, 4, none⟩), .int .i64 0, .int .i64 1099511627776, .int .i64 136, .int .i64 12, .pointer (some ⟨g, 5, none⟩), .int .i64 (-4611686018427387904), .int .i64 4611686018427387904] 86
 generalize (w.alloc (.cells #[.int .i64 100, .int .i64 8, .pointer (some ⟨g, 1, none⟩), .int .i64 0, .int .i64 4611686018427387904, .int .i64 108, .int .i64 8, .pointer (some ⟨g, 2, none⟩), .int .i64 0, .int .i64 4611686018427387904, .int .i64 116, .int .i64 8, .pointer (some ⟨g, 3, none⟩), .int .i64 0, .int .i64 4611686018427387904, .int .i64 124, .int .i64 12, .pointer (some ⟨g, 4, none⟩), .int .i64 0, .int .i64 1099511627776, .int .i64 136, .int .i64 12, .pointer (some ⟨g, 5, none⟩), .int .i64 (-4611686018427387904), .int .i64 4611686018427387904] 86)).drew = w1 at hB1 hr1 ⊢
 have hc1 : w1.cell? ⟨g, 8, none⟩ = some (.int .i64 way) := pw_cell_below hB1 HC8.out
 have hd1 : w1.cell? ⟨g, 6, none⟩ = some (.int .u8 kind) := pw_cell_below hB1 HC6.out
 have HB1 := Aside0.mk hB1
 have HO1 : Aside0 (w1.ownsRow w.heap.size 86 5 (.slice (some ⟨w.heap.size, 0, none⟩) 5 5) 5 [.int .i64 100, .int .i64 8, .pointer (some ⟨g, 1, none⟩), .int .i64 0, .int .i64 4611686018427387904, .int .i64 108, .int .i64 8, .pointer (some ⟨g, 2, none⟩), .int .i64 0, .int .i64 4611686018427387904, .int .i64 116, .int .i64 8, .pointer (some ⟨g, 3, none⟩), .int .i64 0, .int .i64 4611686018427387904, .int .i64 124, .int .i64 12, .pointer (some ⟨g, 4, none⟩), .int .i64 0, .int .i64 1099511627776, .int .i64 136, .int .i64 12, .pointer (some ⟨g, 5, none⟩), .int .i64 (-4611686018427387904), .int .i64 4611686018427387904]) := ⟨own_of_block _ hr1 (Nat.le_refl _) rfl (by decide)⟩
 clear hB1 hr1
 go_wp2
 go_ret
 refine ⟨_, rfl, ?_, HB1.out⟩
 have e_ : numbersL way kind = numbersL 0 0 := by unfold numbersL; rw [if_pos HN.out, if_neg H1.out]; rfl
 rw [e_]
 exact HO1.out
set_option maxRecDepth 100000 in
set_option maxHeartbeats 4000000 in
theorem numbers_old_last (g : Nat) (way kind : Int) (cs : Array Value) (w : World) (hg : w.heap[g]? = some (.cells cs 31 (0, 0))) (h8 : cs[8]? = some (.int .i64 way)) (h6 : cs[6]? = some (.int .u8 kind)) (hn : way = 0) (h1 : kind = 83) :
  Calls Tryz.prog 59 #[.pointer (some ⟨g, 0, none⟩)] w (NumbersPost g way kind w) := by
 have hc8 : w.cell? ⟨g, 8, none⟩ = some (.int .i64 way) := (blk_cell hg 8).trans h8
 have hc6 : w.cell? ⟨g, 6, none⟩ = some (.int .u8 kind) := (blk_cell hg 6).trans h6
 have n0 : (way != 0) = false := by rw [hn]; rfl
 have n1 : (kind == 83) = true := beq_iff_eq.2 h1
 have HN := Aside0.mk hn
 have H1 := Aside0.mk h1
 have HC8 := Aside0.mk hc8
 have HC6 := Aside0.mk hc6
 obtain ⟨i0, hi, hz0, hz1, hz2⟩ := info_parts zero_number
 clear hn h1 hg h8 hc8 h6 hc6
 go_enter Tryz.func59, Tryz.ntmps59
 go_wp2
 go_region_held3 (fun w' => True) (trivial) (fail)
 have hB1 : Below w.heap.size w (w.alloc (.cells #[.int .i64 100, .int .i64 8, .pointer (some ⟨g, 1, none⟩), .int .i64 0, .int .i64 4611686018427387904, .int .i64 108, .int .i64 8, .pointer (some ⟨g, 2, none⟩), .int .i64 0, .int .i64 4611686018427387904, .int .i64 116, .int .i64 8, .pointer (some ⟨g, 3, none⟩), .int .i64 0, .int .i64 4611686018427387904, .int .i64 124, .int .i64 12, .pointer (some ⟨g, 4, none⟩), .int .i64 0, .int .i64 1099511627776, .int .i64 136, .int .i64 12, .pointer (some ⟨g, 5, none⟩), .int .i64 (-4611686018427387904), .int .i64 4611686018427387904] 86)).drew := below_drew (below_alloc (Below.refl w.heap.size w) _)
 have hr1 := row_of_alloc w #[.int .i64 100, .int .i64 8, .pointer (some ⟨g, 1, none⟩), .int .i64 0, .int .i64 4611686018427387904, .int .i64 108, .int .i64 8, .pointer (some ⟨g, 2, none⟩), .int .i64 0, .int .i64 4611686018427387904, .int .i64 116, .int .i64 8, .pointer (some ⟨g, 3, none⟩), .int .i64 0, .int .i64 4611686018427387904, .int .i64 124, .int .i64 12, .pointer (some ⟨g, 4, none⟩), .int .i64 0, .int .i64 1099511627776, .int .i64 136, .int .i64 12, .pointer (some ⟨g, 5, none⟩), .int .i64 (-4611686018427387904), .int .i64 4611686018427387904] 86
 generalize (w.alloc (.cells #[.int .i64 100, .int .i64 8, .pointer (some ⟨g, 1, none⟩), .int .i64 0, .int .i64 4611686018427387904, .int .i64 108, .int .i64 8, .pointer (some ⟨g, 2, none⟩), .int .i64 0, .int .i64 4611686018427387904, .int .i64 116, .int .i64 8, .pointer (some ⟨g, 3, none⟩), .int .i64 0, .int .i64 4611686018427387904, .int .i64 124, .int .i64 12, .pointer (some ⟨g, 4, none⟩), .int .i64 0, .int .i64 1099511627776, .int .i64 136, .int .i64 12, .pointer (some ⟨g, 5, none⟩), .int .i64 (-4611686018427387904), .int .i64 4611686018427387904] 86)).drew = w1 at hB1 hr1 ⊢
 have hc1 : w1.cell? ⟨g, 8, none⟩ = some (.int .i64 way) := pw_cell_below hB1 HC8.out
 have hd1 : w1.cell? ⟨g, 6, none⟩ = some (.int .u8 kind) := pw_cell_below hB1 HC6.out
 have HB1 := Aside0.mk hB1
 have HO1 : Aside0 (w1.ownsRow w.heap.size 86 5 (.slice (some ⟨w.heap.size, 0, none⟩) 5 5) 5 [.int .i64 100, .int .i64 8, .pointer (some ⟨g, 1, none⟩), .int .i64 0, .int .i64 4611686018427387904, .int .i64 108, .int .i64 8, .pointer (some ⟨g, 2, none⟩), .int .i64 0, .int .i64 4611686018427387904, .int .i64 116, .int .i64 8, .pointer (some ⟨g, 3, none⟩), .int .i64 0, .int .i64 4611686018427387904, .int .i64 124, .int .i64 12, .pointer (some ⟨g, 4, none⟩), .int .i64 0, .int .i64 1099511627776, .int .i64 136, .int .i64 12, .pointer (some ⟨g, 5, none⟩), .int .i64 (-4611686018427387904), .int .i64 4611686018427387904]) := ⟨own_of_block _ hr1 (Nat.le_refl _) rfl (by decide)⟩
 clear hB1 hr1
 go_wp2_with (at_builtin; refine wpList_append_own _ rfl _ _ 81 rfl w.heap.size 86 i0 (.agg #[.int .i64 0, .int .i64 0, .pointer none, .int .i64 0, .int .i64 0]) 5 40 Tryz.underlying81 hi hz0 hz1 hz2 rfl (by decide) _ 5 _ rfl (pw_own_below HO1.out (by repeat (first | with_reducible exact Below.refl _ _ | with_reducible refine below_drew ?_ | with_reducible refine below_alloc ?_ _))) ⟨w1.heap.size, 0, none⟩ 1 1 [.int .i64 483, .int .i64 12, .pointer (some ⟨g, 16, none⟩), .int .i64 0, .int .i64 1099511627776] rfl rfl (news_block _ (by first | exact row2_alloc _ _ _ | exact row_of_alloc _ _ _)) (by simp [Value.oneCell']) (by decide) (by decide) (by have := HB1.out.size; simp; omega) ?_; intro v2 w3 hO3 hg3 _; have HO3 := Aside0.mk hO3; have HB3 := Aside0.mk ((below_alloc HB1.out _).grown hg3 (by have := HB1.out.size; simp; omega) (fun k e => own_base HO1.out k e)); clear hO3 hg3)
 go_ret
 refine ⟨v2, rfl, ?_, HB3.out⟩
 have e_ : numbersL way kind = numbersL 0 83 := by unfold numbersL; rw [if_pos HN.out, if_pos H1.out]; rfl
 rw [e_]
 exact HO3.out
set_option maxRecDepth 100000 in
set_option maxHeartbeats 4000000 in
theorem numbers_more (g : Nat) (way kind : Int) (cs : Array Value) (w : World) (hg : w.heap[g]? = some (.cells cs 31 (0, 0))) (h8 : cs[8]? = some (.int .i64 way)) (h6 : cs[6]? = some (.int .u8 kind)) (hn : ¬ way = 0) (h1 : ¬ kind = 83) :
  Calls Tryz.prog 59 #[.pointer (some ⟨g, 0, none⟩)] w (NumbersPost g way kind w) := by
 have hc8 : w.cell? ⟨g, 8, none⟩ = some (.int .i64 way) := (blk_cell hg 8).trans h8
 have hc6 : w.cell? ⟨g, 6, none⟩ = some (.int .u8 kind) := (blk_cell hg 6).trans h6
 have n0 : (way != 0) = true := bne_iff_ne.2 hn
 have n1 : (kind == 83) = false := beq_eq_false_iff_ne.2 h1
 have HN := Aside0.mk hn
 have H1 := Aside0.mk h1
 have HC8 := Aside0.mk hc8
 have HC6 := Aside0.mk hc6
 obtain ⟨i0, hi, hz0, hz1, hz2⟩ := info_parts zero_number
 clear hn h1 hg h8 hc8 h6 hc6
 go_enter Tryz.func59, Tryz.ntmps59
 go_wp2
 go_region_held3 (fun w' => True) (trivial) (fail)
 have hB1 : Below w.heap.size w (w.alloc (.cells #[.int .i64 100, .int .i64 8, .pointer (some ⟨g, 1, none⟩), .int .i64 0, .int .i64 4611686018427387904, .int .i64 108, .int .i64 8, .pointer (some ⟨g, 2, none⟩), .int .i64 0, .int .i64 4611686018427387904, .int .i64 116, .int .i64 8, .pointer (some ⟨g, 3, none⟩), .int .i64 0, .int .i64 4611686018427387904, .int .i64 124, .int .i64 12, .pointer (some ⟨g, 4, none⟩), .int .i64 0, .int .i64 1099511627776, .int .i64 136, .int .i64 12, .pointer (some ⟨g, 5, none⟩), .int .i64 (-4611686018427387904), .int .i64 4611686018427387904] 86)).drew := below_drew (below_alloc (Below.refl w.heap.size w) _)
 have hr1 := row_of_alloc w #[.int .i64 100, .int .i64 8, .pointer (some ⟨g, 1, none⟩), .int .i64 0, .int .i64 4611686018427387904, .int .i64 108, .int .i64 8, .pointer (some ⟨g, 2, none⟩), .int .i64 0, .int .i64 4611686018427387904, .int .i64 116, .int .i64 8, .pointer (some ⟨g, 3, none⟩), .int .i64 0, .int .i64 4611686018427387904, .int .i64 124, .int .i64 12, .pointer (some ⟨g, 4, none⟩), .int .i64 0, .int .i64 1099511627776, .int .i64 136, .int .i64 12, .pointer (some ⟨g, 5, none⟩), .int .i64 (-4611686018427387904), .int .i64 4611686018427387904] 86
 generalize (w.alloc (.cells #[.int .i64 100, .int .i64 8, .pointer (some ⟨g, 1, none⟩), .int .i64 0, .int .i64 4611686018427387904, .int .i64 108, .int .i64 8, .pointer (some ⟨g, 2, none⟩), .int .i64 0, .int .i64 4611686018427387904, .int .i64 116, .int .i64 8, .pointer (some ⟨g, 3, none⟩), .int .i64 0, .int .i64 4611686018427387904, .int .i64 124, .int .i64 12, .pointer (some ⟨g, 4, none⟩), .int .i64 0, .int .i64 1099511627776, .int .i64 136, .int .i64 12, .pointer (some ⟨g, 5, none⟩), .int .i64 (-4611686018427387904), .int .i64 4611686018427387904] 86)).drew = w1 at hB1 hr1 ⊢
 have hc1 : w1.cell? ⟨g, 8, none⟩ = some (.int .i64 way) := pw_cell_below hB1 HC8.out
 have hd1 : w1.cell? ⟨g, 6, none⟩ = some (.int .u8 kind) := pw_cell_below hB1 HC6.out
 have HB1 := Aside0.mk hB1
 have HO1 : Aside0 (w1.ownsRow w.heap.size 86 5 (.slice (some ⟨w.heap.size, 0, none⟩) 5 5) 5 [.int .i64 100, .int .i64 8, .pointer (some ⟨g, 1, none⟩), .int .i64 0, .int .i64 4611686018427387904, .int .i64 108, .int .i64 8, .pointer (some ⟨g, 2, none⟩), .int .i64 0, .int .i64 4611686018427387904, .int .i64 116, .int .i64 8, .pointer (some ⟨g, 3, none⟩), .int .i64 0, .int .i64 4611686018427387904, .int .i64 124, .int .i64 12, .pointer (some ⟨g, 4, none⟩), .int .i64 0, .int .i64 1099511627776, .int .i64 136, .int .i64 12, .pointer (some ⟨g, 5, none⟩), .int .i64 (-4611686018427387904), .int .i64 4611686018427387904]) := ⟨own_of_block _ hr1 (Nat.le_refl _) rfl (by decide)⟩
 clear hB1 hr1
 go_wp2
 go_region_law ((refine step_append_rows (w0 := w) w.heap.size rfl _ _ 81 86 (.agg #[.int .i64 0, .int .i64 0, .pointer none, .int .i64 0, .int .i64 0]) 5 40 rfl Tryz.underlying81 zero_number rfl (by decide) _ 5 [.int .i64 100, .int .i64 8, .pointer (some ⟨g, 1, none⟩), .int .i64 0, .int .i64 4611686018427387904, .int .i64 108, .int .i64 8, .pointer (some ⟨g, 2, none⟩), .int .i64 0, .int .i64 4611686018427387904, .int .i64 116, .int .i64 8, .pointer (some ⟨g, 3, none⟩), .int .i64 0, .int .i64 4611686018427387904, .int .i64 124, .int .i64 12, .pointer (some ⟨g, 4, none⟩), .int .i64 0, .int .i64 1099511627776, .int .i64 136, .int .i64 12, .pointer (some ⟨g, 5, none⟩), .int .i64 (-4611686018427387904), .int .i64 4611686018427387904] rfl (pw_own_below HO1.out (by repeat (first | with_reducible exact Below.refl _ _ | with_reducible refine below_drew ?_ | with_reducible refine below_alloc ?_ _))) ⟨w1.heap.size, 0, none⟩ 2 2 [.int .i64 329, .int .i64 8, .pointer (some ⟨g, 11, none⟩), .int .i64 0, .int .i64 4611686018427387904, .int .i64 337, .int .i64 8, .pointer (some ⟨g, 12, none⟩), .int .i64 0, .int .i64 4611686018427387904] rfl rfl (news_block _ (by first | exact row2_alloc _ _ _ | exact row_of_alloc _ _ _)) (by simp [Value.oneCell']) (by decide) (by decide) (by have := HB1.out.size; simp; omega) (by repeat (first | with_reducible exact HB1.out | with_reducible refine below_drew ?_ | with_reducible refine below_alloc ?_ _)) ?_); intro v1 w2 hO2 hB2 hS2; have hc2 : w2.cell? ⟨g, 8, none⟩ = some (.int .i64 way) := pw_cell_below hB2 HC8.out; have hd2 : w2.cell? ⟨g, 6, none⟩ = some (.int .u8 kind) := pw_cell_below hB2 HC6.out; have HO2 : Aside0 (w2.ownsRow w.heap.size 86 5 v1 7 (((numbersL 2 0).map (ncell g)).flatten)) := ⟨hO2⟩; have HB2 := Aside0.mk hB2; clear hO2 hB2)
 go_wp2
 go_ret
 refine ⟨_, rfl, ?_, HB2.out⟩
 have e_ : numbersL way kind = numbersL 2 0 := by unfold numbersL; rw [if_neg HN.out, if_neg H1.out]; rfl
 rw [e_]
 exact HO2.out
set_option maxRecDepth 100000 in
set_option maxHeartbeats 4000000 in
theorem numbers_more_last (g : Nat) (way kind : Int) (cs : Array Value) (w : World) (hg : w.heap[g]? = some (.cells cs 31 (0, 0))) (h8 : cs[8]? = some (.int .i64 way)) (h6 : cs[6]? = some (.int .u8 kind)) (hn : ¬ way = 0) (h1 : kind = 83) :
  Calls Tryz.prog 59 #[.pointer (some ⟨g, 0, none⟩)] w (NumbersPost g way kind w) := by
 have hc8 : w.cell? ⟨g, 8, none⟩ = some (.int .i64 way) := (blk_cell hg 8).trans h8
 have hc6 : w.cell? ⟨g, 6, none⟩ = some (.int .u8 kind) := (blk_cell hg 6).trans h6
 have n0 : (way != 0) = true := bne_iff_ne.2 hn
 have n1 : (kind == 83) = true := beq_iff_eq.2 h1
 have HN := Aside0.mk hn
 have H1 := Aside0.mk h1
 have HC8 := Aside0.mk hc8
 have HC6 := Aside0.mk hc6
 obtain ⟨i0, hi, hz0, hz1, hz2⟩ := info_parts zero_number
 clear hn h1 hg h8 hc8 h6 hc6
 go_enter Tryz.func59, Tryz.ntmps59
 go_wp2
 go_region_held3 (fun w' => True) (trivial) (fail)
 have hB1 : Below w.heap.size w (w.alloc (.cells #[.int .i64 100, .int .i64 8, .pointer (some ⟨g, 1, none⟩), .int .i64 0, .int .i64 4611686018427387904, .int .i64 108, .int .i64 8, .pointer (some ⟨g, 2, none⟩), .int .i64 0, .int .i64 4611686018427387904, .int .i64 116, .int .i64 8, .pointer (some ⟨g, 3, none⟩), .int .i64 0, .int .i64 4611686018427387904, .int .i64 124, .int .i64 12, .pointer (some ⟨g, 4, none⟩), .int .i64 0, .int .i64 1099511627776, .int .i64 136, .int .i64 12, .pointer (some ⟨g, 5, none⟩), .int .i64 (-4611686018427387904), .int .i64 4611686018427387904] 86)).drew := below_drew (below_alloc (Below.refl w.heap.size w) _)
 have hr1 := row_of_alloc w #[.int .i64 100, .int .i64 8, .pointer (some ⟨g, 1, none⟩), .int .i64 0, .int .i64 4611686018427387904, .int .i64 108, .int .i64 8, .pointer (some ⟨g, 2, none⟩), .int .i64 0, .int .i64 4611686018427387904, .int .i64 116, .int .i64 8, .pointer (some ⟨g, 3, none⟩), .int .i64 0, .int .i64 4611686018427387904, .int .i64 124, .int .i64 12, .pointer (some ⟨g, 4, none⟩), .int .i64 0, .int .i64 1099511627776, .int .i64 136, .int .i64 12, .pointer (some ⟨g, 5, none⟩), .int .i64 (-4611686018427387904), .int .i64 4611686018427387904] 86
 generalize (w.alloc (.cells #[.int .i64 100, .int .i64 8, .pointer (some ⟨g, 1, none⟩), .int .i64 0, .int .i64 4611686018427387904, .int .i64 108, .int .i64 8, .pointer (some ⟨g, 2, none⟩), .int .i64 0, .int .i64 4611686018427387904, .int .i64 116, .int .i64 8, .pointer (some ⟨g, 3, none⟩), .int .i64 0, .int .i64 4611686018427387904, .int .i64 124, .int .i64 12, .pointer (some ⟨g, 4, none⟩), .int .i64 0, .int .i64 1099511627776, .int .i64 136, .int .i64 12, .pointer (some ⟨g, 5, none⟩), .int .i64 (-4611686018427387904), .int .i64 4611686018427387904] 86)).drew = w1 at hB1 hr1 ⊢
 have hc1 : w1.cell? ⟨g, 8, none⟩ = some (.int .i64 way) := pw_cell_below hB1 HC8.out
 have hd1 : w1.cell? ⟨g, 6, none⟩ = some (.int .u8 kind) := pw_cell_below hB1 HC6.out
 have HB1 := Aside0.mk hB1
 have HO1 : Aside0 (w1.ownsRow w.heap.size 86 5 (.slice (some ⟨w.heap.size, 0, none⟩) 5 5) 5 [.int .i64 100, .int .i64 8, .pointer (some ⟨g, 1, none⟩), .int .i64 0, .int .i64 4611686018427387904, .int .i64 108, .int .i64 8, .pointer (some ⟨g, 2, none⟩), .int .i64 0, .int .i64 4611686018427387904, .int .i64 116, .int .i64 8, .pointer (some ⟨g, 3, none⟩), .int .i64 0, .int .i64 4611686018427387904, .int .i64 124, .int .i64 12, .pointer (some ⟨g, 4, none⟩), .int .i64 0, .int .i64 1099511627776, .int .i64 136, .int .i64 12, .pointer (some ⟨g, 5, none⟩), .int .i64 (-4611686018427387904), .int .i64 4611686018427387904]) := ⟨own_of_block _ hr1 (Nat.le_refl _) rfl (by decide)⟩
 clear hB1 hr1
 go_wp2
 go_region_law ((refine step_append_rows (w0 := w) w.heap.size rfl _ _ 81 86 (.agg #[.int .i64 0, .int .i64 0, .pointer none, .int .i64 0, .int .i64 0]) 5 40 rfl Tryz.underlying81 zero_number rfl (by decide) _ 5 [.int .i64 100, .int .i64 8, .pointer (some ⟨g, 1, none⟩), .int .i64 0, .int .i64 4611686018427387904, .int .i64 108, .int .i64 8, .pointer (some ⟨g, 2, none⟩), .int .i64 0, .int .i64 4611686018427387904, .int .i64 116, .int .i64 8, .pointer (some ⟨g, 3, none⟩), .int .i64 0, .int .i64 4611686018427387904, .int .i64 124, .int .i64 12, .pointer (some ⟨g, 4, none⟩), .int .i64 0, .int .i64 1099511627776, .int .i64 136, .int .i64 12, .pointer (some ⟨g, 5, none⟩), .int .i64 (-4611686018427387904), .int .i64 4611686018427387904] rfl (pw_own_below HO1.out (by repeat (first | with_reducible exact Below.refl _ _ | with_reducible refine below_drew ?_ | with_reducible refine below_alloc ?_ _))) ⟨w1.heap.size, 0, none⟩ 2 2 [.int .i64 329, .int .i64 8, .pointer (some ⟨g, 11, none⟩), .int .i64 0, .int .i64 4611686018427387904, .int .i64 337, .int .i64 8, .pointer (some ⟨g, 12, none⟩), .int .i64 0, .int .i64 4611686018427387904] rfl rfl (news_block _ (by first | exact row2_alloc _ _ _ | exact row_of_alloc _ _ _)) (by simp [Value.oneCell']) (by decide) (by decide) (by have := HB1.out.size; simp; omega) (by repeat (first | with_reducible exact HB1.out | with_reducible refine below_drew ?_ | with_reducible refine below_alloc ?_ _)) ?_); intro v1 w2 hO2 hB2 hS2; have hc2 : w2.cell? ⟨g, 8, none⟩ = some (.int .i64 way) := pw_cell_below hB2 HC8.out; have hd2 : w2.cell? ⟨g, 6, none⟩ = some (.int .u8 kind) := pw_cell_below hB2 HC6.out; have HO2 : Aside0 (w2.ownsRow w.heap.size 86 5 v1 7 (((numbersL 2 0).map (ncell g)).flatten)) := ⟨hO2⟩; have HB2 := Aside0.mk hB2; clear hO2 hB2)
 go_wp2_with (at_builtin; refine wpList_append_own _ rfl _ _ 81 rfl w.heap.size 86 i0 (.agg #[.int .i64 0, .int .i64 0, .pointer none, .int .i64 0, .int .i64 0]) 5 40 Tryz.underlying81 hi hz0 hz1 hz2 rfl (by decide) _ 7 _ rfl (pw_own_below HO2.out (by repeat (first | with_reducible exact Below.refl _ _ | with_reducible refine below_drew ?_ | with_reducible refine below_alloc ?_ _))) ⟨w2.heap.size, 0, none⟩ 1 1 [.int .i64 483, .int .i64 12, .pointer (some ⟨g, 16, none⟩), .int .i64 0, .int .i64 1099511627776] rfl rfl (news_block _ (by first | exact row2_alloc _ _ _ | exact row_of_alloc _ _ _)) (by simp [Value.oneCell']) (by decide) (by decide) (by have := HB2.out.size; simp; omega) ?_; intro v2 w3 hO3 hg3 _; have HO3 := Aside0.mk hO3; have HB3 := Aside0.mk ((below_alloc HB2.out _).grown hg3 (by have := HB2.out.size; simp; omega) (fun k e => own_base HO2.out k e)); clear hO3 hg3)
 go_ret
 refine ⟨v2, rfl, ?_, HB3.out⟩
 have e_ : numbersL way kind = numbersL 2 83 := by unfold numbersL; rw [if_neg HN.out, if_pos H1.out]; rfl
 rw [e_]
 exact HO3.out
theorem texts_calls (g : Nat) (way : Int) (cs : Array Value) (w : World) (hg : w.heap[g]? = some (.cells cs 31 (0, 0))) (h8 : cs[8]? = some (.int .i64 way)) : Calls Tryz.prog 62 #[.pointer (some ⟨g, 0, none⟩)] w (TextsPost g way w) := by
 by_cases hn : way = 0
 ·exact texts_old g way cs w hg h8 hn (by omega)
 ·by_cases h1 : way = 1
  ·exact texts_more_last g way cs w hg h8 hn h1
  ·exact texts_more g way cs w hg h8 hn h1
theorem numbers_calls (g : Nat) (way kind : Int) (cs : Array Value) (w : World) (hg : w.heap[g]? = some (.cells cs 31 (0, 0))) (h8 : cs[8]? = some (.int .i64 way)) (h6 : cs[6]? = some (.int .u8 kind)) : Calls Tryz.prog 59 #[.pointer (some ⟨g, 0, none⟩)] w (NumbersPost g way kind w) := by
 by_cases hn : way = 0 <;> by_cases h1 : kind = 83
 ·exact numbers_old_last g way kind cs w hg h8 h6 hn h1
 ·exact numbers_old g way kind cs w hg h8 h6 hn h1
 ·exact numbers_more_last g way kind cs w hg h8 h6 hn h1
 ·exact numbers_more g way kind cs w hg h8 h6 hn h1
end Go.Proofs.YtkfcfbggojmfkaaGreatDoor.P
