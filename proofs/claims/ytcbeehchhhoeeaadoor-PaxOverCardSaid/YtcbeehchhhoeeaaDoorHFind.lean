/- pax.Find: what it hands back for every slice of records. No conditions. -/
import Derived.RangeFuncNested
import Derived.RangeFuncBound
import Derived.RangeFuncCalls
import Derived.RangeFuncLeaves
import Derived.RangeFuncBox
import Derived.Shelf.Abstract
import Derived.Shelf.RegionOpen
import Derived.WalkKit
import Derived.OwnWalkIn
import Derived.TacticsInMore
import Derived.LoopNIn
import Derived.LoopIn
import Derived.Test.YtcbeehchhhoeeaaDoorPx0
namespace Go.Proofs.YtcbeehchhhoeeaaDoor.P
open Go.RowKit Go.Shelf Go.Lib Go.Proofs Go.Proofs.YtcbeehchhhoeeaaDoorW.PrintWords Go.Proofs.YtcbeehchhhoeeaaDoorW.PrintLast Go.Proofs.YtcbeehchhhoeeaaDoorW.PrintMore
set_option linter.unusedVariables false
set_option linter.unusedSimpArgs false
attribute [local go_sem] Oper.semAt_some

/-- Rows that are read, as what is appended. -/
theorem Kd.rows41 {w : World} {base : Nat} {ok : Nat → Prop} {A : Option Addr} {n : Nat} {xs : List S41} (h : Kd.C k41 w A n xs) : ReadsRow (k41.M w base ok) k41.sz w A n xs := h
/-- What Find answers, from the last one on. -/
def findL (key : ByteArray) : List S41 → ByteArray × Bool
  | [] => (⟨#[]⟩, false)
  | p :: t => if p.f0.toList = key.toList then (p.f1, true) else findL key t
def pax_Find.f (l : List S41) (key : ByteArray) : Option (ByteArray × Bool) := some (findL key l.reverse)
/-- A round's two values. -/
def backE (x : Int × S41) : Array Value := #[.int .i64 x.1, .agg #[.string x.2.f0, .string x.2.f1]]
/-- What has come when k rounds are over. -/
def backs (l : List S41) (k : Nat) : List (Int × S41) := (List.range k).map fun j => (((l.length - 1 - j : Nat) : Int), rd_T41 l ((l.length - 1 - j : Nat) : Int))
theorem backs_succ (l : List S41) (k : Nat) : backs l (k + 1) = backs l k ++ [(((l.length - 1 - k : Nat) : Int), rd_T41 l ((l.length - 1 - k : Nat) : Int))] := by simp [backs, List.range_succ]
theorem backs_length (l : List S41) (k : Nat) : (backs l k).length = k := by simp [backs]
set_option maxRecDepth 100000 in
theorem backward_calls (A : Option Addr) (n c : Nat) (w : World) :
    Calls Tryd.prog 37 #[.slice A n c] w fun e w' => e = .returned (.func (.func 51) #[] #[.pointer (some ⟨w.heap.size, 0, none⟩)]) ∧ w' = w.alloc (.cells #[.slice A n c] 23) := by
  go_enter Tryd.func37, Tryd.ntmps37
  go_wp2
  go_ret
  exact ⟨rfl, rfl⟩
set_option maxRecDepth 100000 in
set_option maxHeartbeats 4000000 in
theorem backward_in (F : Fence) (n : Nat) (h51 : F.fn 51) (hro : F.round = none) (hn : 1 ≤ n) (L Bs : Nat) (W0 : World) (A : Option Addr) (c : Nat) (l : List S41) (hlen : l.length ≤ 9223372036854775807) (J Jx : List (Int × S41) → World → Prop)
    (hY : ∀ pre x W, J pre W → pre.length < l.length → YieldAt F (n - 1) Tryd.prog L (backE x) W fun e W' =>
      (e = .returned (.bool true) ∧ J (pre ++ [x]) W' ∧ Below W0.heap.size W W') ∨ (e = .returned (.bool false) ∧ Jx (pre ++ [x]) W'))
    (W : World) (hBs : W0.cell? ⟨Bs, 0, none⟩ = some (.slice A l.length c)) (hC : Kd.C k41 W0 A l.length l) (hW : Below W0.heap.size W0 W) (h0 : J [] W) :
    CallsIn F n Tryd.prog 51 #[.func (.yield L) #[] #[], .pointer (some ⟨Bs, 0, none⟩)] W fun e W' => (∃ v, e = .returned v) ∧
      ((∃ ys, ys = backs l l.length ∧ J ys W') ∨ (∃ pre, (∃ k, k ≤ l.length ∧ pre = backs l k) ∧ Jx pre W')) := by
  refine callsIn_of_wp Tryd.func51 rfl h51 ?_ hro
  simp only [Tryd.ntmps51, List.size_toArray, List.length_cons, List.length_nil, Nat.reduceAdd, Nat.reduceSub, Array.replicate_succ, Array.replicate_zero, List.push_toArray, List.append_toArray, List.nil_append, List.cons_append]
  have hB1 := (hW.cell (World.block_lt_of_cell? W0 _ hBs)).trans hBs
  have wl : wrap64 ((l.length : Int) - 1) = (l.length : Int) - 1 := by unfold wrap64; omega
  gi_wp2
  gi_loopw [3] (fun i wr => ∃ (k r : Nat) (v : Int), k + r = l.length ∧ v = (r : Int) - 1 ∧ i = .int .i64 v ∧ J (backs l k) wr ∧ Below W0.heap.size W wr)
    (fun i _ => ((intOf i) + 1).toNat)
  case atStart => exact ⟨0, l.length, (l.length : Int) - 1, by omega, rfl, rfl, h0, Below.refl _ _⟩
  case round =>
    obtain ⟨k, r, v, hkr, hv, rfl, hJs, hnx⟩ := hrel
    have hB2 : wr.cell? ⟨Bs, 0, none⟩ = some (.slice A l.length c) := ((hW.trans hnx).cell (World.block_lt_of_cell? W0 _ hBs)).trans hBs
    cases r with
    | zero =>
      have hge : decide (0 ≤ v) = false := decide_eq_false (by omega)
      have hk0 : k = l.length := by omega
      subst hk0
      gi_wp2
      go_end0
      exact ⟨⟨_, rfl⟩, .inl ⟨_, rfl, hJs⟩⟩
    | succ q =>
      obtain rfl : v = (q : Int) := by omega
      have hq : l.length - 1 - k = q := by omega
      obtain ⟨ad, rfl, hx0, hx1⟩ := at_T41 hC (q : Int) (by omega) (by omega)
      replace hx0 := ((hW.trans hnx).cell (World.block_lt_of_cell? W0 _ hx0)).trans hx0
      replace hx1 := ((hW.trans hnx).cell (World.block_lt_of_cell? W0 _ hx1)).trans hx1
      rw [Int.toNat_natCast] at hx0 hx1
      have hge : (0 ≤ (q : Int)) = True := eq_true (by omega)
      have hge2 : decide (0 ≤ (q : Int)) = true := decide_eq_true (by omega)
      have hlt : decide (q < l.length) = true := decide_eq_true (by omega)
      have hlt2 : q < l.length := by omega
      have wq : wrap64 ((q : Int) - 1) = (q : Int) - 1 := by unfold wrap64; omega
      obtain ⟨p, hp⟩ : ∃ p, p = rd_T41 l (q : Int) := ⟨_, rfl⟩
      rw [← hp] at hx0 hx1
      obtain ⟨F0, F1⟩ := p
      simp only at hx0 hx1
      obtain ⟨fn, tmps, assign, body, hy, hR⟩ := hY _ ((q : Int), (⟨F0, F1⟩ : S41)) wr hJs (by rw [backs_length]; omega)
      unfold backE at hy
      simp only at hy
      have HS := Aside0.mk (show backs l k ++ [((q : Int), (⟨F0, F1⟩ : S41))] = backs l (k + 1) by rw [backs_succ, hq, ← hp])
      have HKR := Aside0.mk hkr
      clear hp hq hkr hv
      gi_wp2
      refine hR.mono ?_
      rintro e W3 (⟨rfl, hJ3, hk3⟩ | ⟨rfl, hJx3⟩)
      · gi_wp2
        go_roundw
        case rel => exact ⟨k + 1, q, (q : Int) - 1, by have := HKR.out; omega, rfl, rfl, by rw [← HS.out]; exact hJ3, hnx.trans hk3⟩
        case measure => simp [intOf]
      · gi_wp2
        refine bodyPost_ret (results_none rfl _ _ _) rfl ?_
        exact ⟨⟨_, rfl⟩, .inr ⟨_, ⟨k + 1, by have := HKR.out; omega, HS.out⟩, hJx3⟩⟩
theorem backward_stops (F : Fence) (n : Nat) (h51 : F.fn 51) (hro : F.round = none) (hn : 1 ≤ n) (Bs : Nat) (W0 : World) (A : Option Addr) (c : Nat) (l : List S41) (hlen : l.length ≤ 9223372036854775807)
    (hBs : W0.cell? ⟨Bs, 0, none⟩ = some (.slice A l.length c)) (hC : Kd.C k41 W0 A l.length l) :
    SeqStopsK F n Tryd.prog 51 #[.pointer (some ⟨Bs, 0, none⟩)] backE (Below W0.heap.size) (fun ys => ys = backs l l.length) (fun pre => ∃ k, k ≤ l.length ∧ pre = backs l k) l.length W0 :=
  fun L J Jx W hW _ _ hY h0 => backward_in F n h51 hro hn L Bs W0 A c l hlen J Jx hY W hBs hC hW h0
/-- What is found among the last k. -/
theorem findL_backs (l : List S41) (key : ByteArray) : ∀ k, k ≤ l.length → (∀ x ∈ backs l k, x.2.f0.toList ≠ key.toList) → findL key l.reverse = findL key (l.take (l.length - k)).reverse
  | 0, _, _ => by rw [Nat.sub_zero, List.take_length]
  | k + 1, hk, h => by
    rw [backs_succ] at h
    rw [findL_backs l key k (by omega) (fun x hx => h x (by simp [hx]))]
    have hlt : l.length - k - 1 < l.length := by omega
    have e : l.take (l.length - k) = l.take (l.length - (k + 1)) ++ [rd_T41 l ((l.length - 1 - k : Nat) : Int)] := by
      rw [show l.length - k = (l.length - 1 - k) + 1 by omega, List.take_succ_eq_append_getElem (by omega), show l.length - (k + 1) = l.length - 1 - k by omega]
      unfold rd_T41
      rw [Int.toNat_natCast]
      simp [List.getD, show l.length - 1 - k < l.length by omega]
    rw [e, List.reverse_append, List.reverse_singleton]
    have hx := h _ (List.mem_append_right _ (List.mem_singleton.2 rfl))
    show findL key (_ :: _) = _
    rw [findL, if_neg hx]
    rfl
theorem find_results {W : World} {b : Nat} {v1 v2 : Value} (b1 : Boxed W b 9 v1) (b2 : Boxed W (b + 1) 4 v2) (tmps : Array Value) (h1 : tmps.getD 4 undef = .pointer (some ⟨b, 0, none⟩)) (h2 : tmps.getD 5 undef = .pointer (some ⟨b + 1, 0, none⟩)) :
    (results Tryd.f22 tmps).run Tryd.prog W = .ok (.tuple #[v1, v2]) W := by
  have hr : Tryd.f22.results = #[.cell 4 9, .cell 5 4] := rfl
  have h1' : tmps[4]?.getD undef = .pointer (some ⟨b, 0, none⟩) := by simpa using h1
  have h2' : tmps[5]?.getD undef = .pointer (some ⟨b + 1, 0, none⟩) := by simpa using h2
  have c1 := b1.cell
  have c2 := b2.cell
  have u1 := Tryd.underlying9
  have u2 := Tryd.underlying4
  simp [results, hr, h1', h2', asAddr, loadVar, u1, u2, c1, c2, go_sem]
theorem fold_backE (t : Array Value) (x : Int × S41) : ((#[10, 11] : Array Tmp).zip (backE x)).foldl (fun t (p, v) => t.setIfInBounds p v) t = (t.setIfInBounds 10 (.int .i64 x.1)).setIfInBounds 11 (.agg #[.string x.2.f0, .string x.2.f1]) := by simp [backE]
/-- What the loop keeps. -/
def FindI (W0 : World) (key : ByteArray) (pre : List (Int × S41)) (W : World) : Prop := (∀ x ∈ pre, x.2.f0.toList ≠ key.toList) ∧ Below W0.heap.size W0 W
/-- Where one is found. -/
def FindX (w : World) (key : ByteArray) (c : Code) (pre : List (Int × S41)) (W : World) : Prop :=
  c = .ret ∧ ∃ pre0 x, pre = pre0 ++ [x] ∧ (∀ y ∈ pre0, y.2.f0.toList ≠ key.toList) ∧ x.2.f0.toList = key.toList ∧ Boxed W (w.heap.size + 1) 9 (.string x.2.f1) ∧ Boxed W (w.heap.size + 2) 4 (.bool true) ∧ Below w.heap.size w W
/-- The loop's variable, in a box of a round's own. -/
def FindA (B : Nat) (A0 : Option Addr) (n c0 : Nat) (key : ByteArray) (x : Int × S41) (a' : Act) (W : World) : Prop :=
  ∃ Bx, B + 4 ≤ Bx ∧ W.heap[Bx]? = some (.cells #[.string x.2.f0, .string x.2.f1] 41 (0, 0)) ∧
    a' = { tmps := #[.slice A0 n c0, .string key, undef, .pointer (some ⟨B, 0, none⟩), .pointer (some ⟨B + 1, 0, none⟩), .pointer (some ⟨B + 2, 0, none⟩), undef, .pointer (some ⟨Bx, 0, none⟩), .slice A0 n c0, .func (.func 51) #[] #[.pointer (some ⟨B + 3, 0, none⟩)], .int .i64 x.1, .agg #[.string x.2.f0, .string x.2.f1], undef, undef, undef, undef, undef, undef], defers := [] }
set_option maxRecDepth 100000 in
set_option maxHeartbeats 8000000 in
theorem pax_Find.calls (A0 : Option Addr) (c0 : Nat) (l0 : List S41) (a1 : ByteArray) (r1 : ByteArray) (r2 : Bool) (w : World) (hr0 : Kd.C k41 w A0 l0.length l0) (hc0 : l0.length ≤ c0) (h : pax_Find.f l0 a1 = some (r1, r2)) :
    Calls Tryd.prog 22 #[.slice A0 l0.length c0, .string a1] w fun e w' => e = .returned (.tuple #[.string r1, .bool r2]) ∧ Below w.heap.size w w' := by
  have hlen : l0.length ≤ 9223372036854775807 := hr0.2.1
  have HV := Aside0.mk (Option.some.inj h)
  clear h
  refine (callsIn_wide (n := 3)).1 ?_
  refine callsIn_of_wp_marks Tryd.func22 rfl trivial ?_ rfl
  simp only [Tryd.ntmps22, List.size_toArray, List.length_cons, List.length_nil, Nat.reduceAdd, Nat.reduceSub, Array.replicate_succ, Array.replicate_zero, List.push_toArray, List.append_toArray, List.nil_append, List.cons_append]
  gi_wp2_with (refine ⟨trivial, ?_⟩; gi_at_call 37; refine (callsIn_wide.2 (backward_calls A0 _ c0 _)).mono ?_; rintro e w1 ⟨rfl, rfl⟩)
  simp only [Nat.add_assoc, Nat.reduceAdd, World.size_alloc]
  obtain ⟨W0, hW0⟩ : ∃ W0, W0 = ((((w.alloc (.cells #[.string a1] 9)).alloc (.cells #[.string (⟨#[]⟩ : ByteArray)] 9)).alloc (.cells #[.bool false] 4)).alloc (.cells #[.slice A0 l0.length c0] 23)) := ⟨_, rfl⟩
  have hs0 : W0.heap.size = w.heap.size + 4 := by rw [hW0]; simp
  have bK : Boxed W0 w.heap.size 9 (.string a1) := by rw [hW0]; exact (((Boxed.new w 9 (.string a1)).alloc _).alloc _).alloc _
  have bS : Boxed W0 (w.heap.size + 1) 9 (.string (⟨#[]⟩ : ByteArray)) := by
    rw [hW0]
    have h := Boxed.new (w.alloc (.cells #[.string a1] 9)) 9 (.string (⟨#[]⟩ : ByteArray))
    rw [World.size_alloc] at h
    exact (h.alloc _).alloc _
  have bB : Boxed W0 (w.heap.size + 2) 4 (.bool false) := by
    rw [hW0]
    have h := Boxed.new ((w.alloc (.cells #[.string a1] 9)).alloc (.cells #[.string (⟨#[]⟩ : ByteArray)] 9)) 4 (.bool false)
    rw [World.size_alloc, World.size_alloc] at h
    exact h.alloc _
  have bL : Boxed W0 (w.heap.size + 3) 23 (.slice A0 l0.length c0) := by
    rw [hW0]
    have h := Boxed.new (((w.alloc (.cells #[.string a1] 9)).alloc (.cells #[.string (⟨#[]⟩ : ByteArray)] 9)).alloc (.cells #[.bool false] 4)) 23 (.slice A0 l0.length c0)
    rw [World.size_alloc, World.size_alloc, World.size_alloc] at h
    exact h
  have hB0 : Below w.heap.size w W0 := by rw [hW0]; exact ((((Below.refl _ w).alloc (Nat.le_refl _) _).alloc (by simp) _).alloc (by simp; omega) _).alloc (by simp; omega) _
  rw [← hW0]
  clear hW0
  have hC0 : Kd.C k41 W0 A0 l0.length l0 := Kd.C_below hr0 hB0
  refine wpIn_rangeFunc_ownH (w := W0) rfl (by omega) (gf := 51) (lb := #[.pointer (some ⟨w.heap.size + 3, 0, none⟩)]) rfl trivial (enters_of Tryd.func51 (by kernel_rfl) rfl)
    (backward_stops Fence.wide _ trivial rfl (by omega) (w.heap.size + 3) W0 A0 c0 l0 hlen bL.cell hC0) (fun h1 h2 => h1.trans h2)
    (fun W l o o' hl ho hc hw => (Below.refl _ W).grown (grownBy_putObj' W l o') (by have := (Array.getElem?_eq_some_iff.1 ho).1; omega) (fun k e => by cases e; exact hl)) (Below.refl _ _) (fun _ => rfl)
    (FindI W0 a1) (FindX w a1)
    (fun s A B row hs hg hr => ⟨hs.1, ownFrom_below (β := Unit) (Nat.le_refl _) (Nat.le_refl _) () A B row hs.2 hg hr⟩)
    (fun c s A B row hs hg hr => by
      obtain ⟨h1, p0, x, h2, h3, h4, h5, h6, h7⟩ := hs
      exact ⟨h1, p0, x, h2, h3, h4, h5.kept hg (fun e => by have := (hr _ e.symm).1; omega), h6.kept hg (fun e => by have := (hr _ e.symm).1; omega), ownFrom_below (β := Unit) (B := W0.heap.size) (Nat.le_refl _) (by omega) () A B row h7 hg hr⟩)
    ⟨fun x hx => (by cases hx), Below.refl _ _⟩ (FindA w.heap.size A0 l0.length c0 a1)
    (fun x a' _ A B row hs hg hr => by
      obtain ⟨Bx, h1, h2, h3⟩ := hs
      exact ⟨Bx, h1, (hg.block Bx (Array.getElem?_eq_some_iff.1 h2).1 (fun e => by obtain ⟨_, o, ho, hc⟩ := hr _ e.symm; rw [h2] at ho; obtain rfl := Option.some.inj ho; cases hc)).trans h2, h3⟩)
    ?assign ?body ?done ?stop
  case assign =>
    rintro l pre x W K ⟨hi, hB⟩ hK
    rw [fold_backE]
    change Code.wpIn (Fence.wide.inRound l) (3 - 1 - 1) _ _ _ { tmps := #[.slice A0 l0.length c0, .string a1, undef, .pointer (some ⟨w.heap.size, 0, none⟩), .pointer (some ⟨w.heap.size + 1, 0, none⟩), .pointer (some ⟨w.heap.size + 2, 0, none⟩), undef, undef, .slice A0 l0.length c0, .func (.func 51) #[] #[.pointer (some ⟨w.heap.size + 3, 0, none⟩)], .int .i64 x.1, .agg #[.string x.2.f0, .string x.2.f1], undef, undef, undef, undef, undef, undef], defers := [] } W
    gi_wp2
    have hb : Below W.heap.size W (W.alloc (.cells #[.string x.2.f0, .string x.2.f1] 41)) := (Below.refl _ W).alloc (Nat.le_refl _) _
    have hsz := hB.size
    exact hK _ _ ((KeepsOthers.alloc _ _).from _) (hb.mono hsz) ⟨hi, hB.trans (hb.mono hsz)⟩ ⟨W.heap.size, by omega, World.alloc_heap_new W _, rfl⟩
  case body =>
    rintro l pre x a' W hl ⟨r, hr⟩ ⟨hi, hB⟩ ⟨Bx, hBx, bX, rfl⟩ hlt
    obtain ⟨i, F0, F1⟩ := x
    have hx0 : W.cell? ⟨Bx, 0, none⟩ = some (.string F0) := (blk_cell bX 0).trans rfl
    have hx1 : W.cell? ⟨Bx, 1, none⟩ = some (.string F1) := (blk_cell bX 1).trans rfl
    have bK' : Boxed W w.heap.size 9 (.string a1) := (hB.block _ bK.lt).trans bK
    have bS' : Boxed W (w.heap.size + 1) 9 (.string (⟨#[]⟩ : ByteArray)) := (hB.block _ bS.lt).trans bS
    have bB' : Boxed W (w.heap.size + 2) 4 (.bool false) := (hB.block _ bB.lt).trans bB
    have hk0 := bK'.cell
    have hs1 := bS'.frozen
    have hs2 := bS'.cell
    have hb1 := bB'.frozen
    have hb2 := bB'.cell
    by_cases he : F0.toList = a1.toList
    · have he1 : (F0.toList == a1.toList) = true := beq_iff_eq.2 he
      have HB := Aside0.mk hB
      have HS := Aside0.mk hs0
      have HI := Aside0.mk hi
      clear hB hs0 hi
      gi_wp2
      have hs0 := HS.out
      refine ⟨((KeepsOthers.setCell _ _ _).trans (KeepsOthers.setCell _ _ _)).from _, rfl, pre, (i, (⟨F0, F1⟩ : S41)), rfl, HI.out, he, (Boxed.set _ bS').kept (grownBy_setCell' _ _ _) (by simp), Boxed.set _ (bB'.kept (grownBy_setCell' _ _ _) (by simp)), ?_⟩
      exact ((hB0.trans (HB.out.mono hB0.size)).setCell (p := ⟨w.heap.size + 1, 0, none⟩) (by simp) _).setCell (p := ⟨w.heap.size + 2, 0, none⟩) (by simp) _
    · have he1 : (F0.toList == a1.toList) = false := beq_eq_false_iff_ne.2 he
      have HB := Aside0.mk hB
      have HI := Aside0.mk hi
      clear hB hi
      gi_wp2
      refine ⟨KeepsFrom.refl _ _, Below.refl _ _, fun x hx => ?_, HB.out⟩
      rcases List.mem_append.1 hx with hx | hx
      · exact HI.out x hx
      · obtain rfl := List.mem_singleton.1 hx
        exact he
  case done =>
    rintro D xs W hD rfl ⟨hi, hB⟩ hK
    have bS' : Boxed W (w.heap.size + 1) 9 (.string (⟨#[]⟩ : ByteArray)) := (hB.block _ bS.lt).trans bS
    have bB' : Boxed W (w.heap.size + 2) 4 (.bool false) := (hB.block _ bB.lt).trans bB
    have hs1 := bS'.frozen
    have hs2 := bS'.cell
    have hb1 := bB'.frozen
    have hb2 := bB'.cell
    have hf := findL_backs l0 a1 l0.length (Nat.le_refl _) hi
    rw [Nat.sub_self, List.take_zero] at hf
    have hv := HV.out
    rw [hf] at hv
    obtain ⟨rfl, rfl⟩ := Prod.mk.inj hv
    have HB := Aside0.mk (hB0.trans (hB.mono hB0.size))
    have HD := Aside0.mk (show w.heap.size + 4 ≤ D by omega)
    clear hB hi hf hv HV hs0 hD
    gi_wp2
    obtain ⟨W2, hW2⟩ : ∃ W2, W2 = (W.setCell ⟨w.heap.size + 1, 0, none⟩ (.string (⟨#[]⟩ : ByteArray))).setCell ⟨w.heap.size + 2, 0, none⟩ (.bool false) := ⟨_, rfl⟩
    have hd := HD.out
    have k1 : Boxed W2 (w.heap.size + 1) 9 (.string (⟨#[]⟩ : ByteArray)) := by rw [hW2]; exact (Boxed.set _ bS').kept (grownBy_setCell' _ _ _) (by simp)
    have k2 : Boxed W2 (w.heap.size + 2) 4 (.bool false) := by rw [hW2]; exact Boxed.set _ (bB'.kept (grownBy_setCell' _ _ _) (by simp))
    have k3 : Below w.heap.size w W2 := by rw [hW2]; exact (HB.out.setCell (p := ⟨w.heap.size + 1, 0, none⟩) (by simp) _).setCell (p := ⟨w.heap.size + 2, 0, none⟩) (by simp) _
    have k4 : W2.heap[D]? = some (.deferred (some [])) := by
      rw [hW2, Below.heap_setCell _ _ _ _ (by simp; omega), Below.heap_setCell _ _ _ _ (by simp; omega)]
      exact hK
    rw [← hW2]
    refine ⟨by simp, .inl ⟨_, _, rfl, run_takeDeferred k4, ?_⟩⟩
    exact ⟨_, find_results ((World.putObj_heap_other (by omega)).trans k1) ((World.putObj_heap_other (by omega)).trans k2) _ rfl rfl, rfl, k3.trans (belowK_b (w := w) (Nat.le_refl _) W2 D _ _ (by omega) k4 rfl rfl)⟩
  case stop =>
    rintro D c pre W hD ⟨k, hk, rfl⟩ ⟨rfl, p0, x, hp, h3, h4, b1, b2, hB⟩ hK
    have hv : findL a1 l0.reverse = (x.2.f1, true) := by
      have hl := congrArg List.length hp
      rw [backs_length, List.length_append, List.length_singleton] at hl
      subst hl
      rw [backs_succ] at hp
      obtain ⟨e1, e2⟩ := List.append_inj' hp rfl
      have e3 := (List.cons.inj e2).1
      rw [findL_backs l0 a1 p0.length (by omega) (by rw [e1]; exact h3)]
      have e : l0.take (l0.length - p0.length) = l0.take (l0.length - (p0.length + 1)) ++ [rd_T41 l0 ((l0.length - 1 - p0.length : Nat) : Int)] := by
        rw [show l0.length - p0.length = (l0.length - 1 - p0.length) + 1 by omega, List.take_succ_eq_append_getElem (by omega), show l0.length - (p0.length + 1) = l0.length - 1 - p0.length by omega]
        unfold rd_T41
        rw [Int.toNat_natCast]
        simp [List.getD, show l0.length - 1 - p0.length < l0.length by omega]
      rw [e, List.reverse_append, List.reverse_singleton]
      have e4 : rd_T41 l0 ((l0.length - 1 - p0.length : Nat) : Int) = x.2 := by rw [← e3]
      show findL a1 (_ :: _) = _
      rw [e4, findL, if_pos h4]
    rw [HV.out] at hv
    obtain ⟨rfl, rfl⟩ := Prod.mk.inj hv
    have hd : w.heap.size + 4 ≤ D := by omega
    gi_wp2
    refine ⟨by simp, .inl ⟨_, _, rfl, run_takeDeferred hK, ?_⟩⟩
    exact ⟨_, find_results ((World.putObj_heap_other (by omega)).trans b1) ((World.putObj_heap_other (by omega)).trans b2) _ rfl rfl, rfl, hB.trans (belowK_b (w := w) (Nat.le_refl _) W D _ _ (by omega) hK rfl rfl)⟩
end Go.Proofs.YtcbeehchhhoeeaaDoor.P
