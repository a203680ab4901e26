/- sum.Zero: what it tells of every slice of bytes. No conditions. -/
import Derived.Test.YtmhomfhdelocjaaDoorPx0
import Derived.Laws.Cells
import Derived.Deep.MidRow
import Derived.Deep.WholeRow
import Derived.ChangeKeysEq
import Derived.Laws.StructEq
namespace Go.Proofs.YtmhomfhdelocjaaDoor.P
open Go.RowKit Go.Proofs.YtmhomfhdelocjaaDoorW.PrintWords Go.Proofs.YtmhomfhdelocjaaDoorW.PrintLast Go.Proofs.YtmhomfhdelocjaaDoorW.PrintMore
set_option linter.unusedVariables false
set_option linter.unusedSimpArgs false

def sum_Zero.f (l0 : List Int) : Option Bool := some (decide (l0.length = 512) && l0.all (fun x => decide (x = 0)))

theorem load_arr (w : World) (ad : Addr) (l : List Int) (h : Kd.C (Kd.int .u8) w (some ad) l.length l) (hl : l.length = 512) :
    (Instr.loadAt 37 (.pointer (some ad))).run Tryd.prog w = .ok (.agg (l.map (fun x => Value.int .u8 x)).toArray) w := by
  have hc : ∀ j v, (l.map (fun x => Value.int .u8 x))[j]? = some v → w.cell? (ad.add j) = some v := fun j v hv => by
    have hj : j < l.length := by
      have := List.getElem?_eq_some_iff.1 hv
      obtain ⟨h1, _⟩ := this
      simpa using h1
    obtain ⟨ad2, e, hx⟩ := Kd.at_int h (j : Int) (by omega) (by omega)
    cases e
    rw [Int.toNat_natCast] at hx
    rw [hx]
    rw [List.getElem?_map, List.getElem?_eq_getElem hj] at hv
    simp only [Option.map_some, Option.some.injEq] at hv
    rw [← hv]
    simp [rd, hj]
  have hl2 := run_loadCells_list (P := Tryd.prog) w ad (l.map (fun x => Value.int .u8 x)) hc
  rw [List.length_map, hl] at hl2
  have hu : Tryd.prog.underlying 37 = some (.array 512 5) := Tryd.underlying37
  have hagg : (isAgg 37).run Tryd.prog w = .ok true w := by
    unfold isAgg
    rw [Sem.run_bind, run_underlying hu w]
    rfl
  cases hq : Tryd.prog.info? 37 with
  | none => exact absurd hq (by have : (Tryd.prog.info? 37).isSome = true := by kernel_rfl
                                intro e; rw [e] at this; cases this)
  | some i =>
    have hs : i.size = 512 := by
      have : (Tryd.prog.info? 37).map (·.size) = some 512 := by kernel_rfl
      rw [hq] at this
      simpa using this
    simp only [Instr.loadAt, Instr.sureAddr, Sem.run_bind, Sem.run_pure, Result.andThen_ok]
    simp [loadVar, Sem.run_bind, hagg, sizeOf, typeInfo, hq, hs, hl2]

/-- Five hundred and twelve bytes lie there: cs. -/
structure ArrAt (w : World) (ad : Addr) (cs : Array Value) : Prop where
  ld : (Instr.loadAt 37 (.pointer (some ad))).run Tryd.prog w = .ok (.agg cs) w
def arrOf (w : World) (ad : Addr) : Array Value := ((List.range 512).map fun j => (w.cell? (ad.add j)).getD undef).toArray
structure Arr (w : World) (ad : Addr) : Prop where
  ld : (Instr.loadAt 37 (.pointer (some ad))).run Tryd.prog w = .ok (.agg (arrOf w ad)) w
theorem Arr.load {w : World} {ad : Addr} (h : Arr w ad) : (Instr.loadAt 37 (.pointer (some ad))).run Tryd.prog w = .ok (.agg (arrOf w ad)) w := h.ld
set_option maxRecDepth 100000 in
theorem arrOf_eq (w : World) (ad : Addr) (l : List Int) (h : Kd.C (Kd.int .u8) w (some ad) l.length l) (hl : l.length = 512) : arrOf w ad = (l.map (fun x => Value.int .u8 x)).toArray := by
  unfold arrOf
  congr 1
  apply List.ext_getElem?
  intro j
  by_cases hj : j < 512
  · obtain ⟨ad2, e, hx⟩ := Kd.at_int h (j : Int) (by omega) (by omega)
    cases e
    rw [Int.toNat_natCast] at hx
    simp [List.getElem?_range hj, hx, rd, hl, hj]
  · simp [List.getElem?_eq_none, hl, hj]
theorem items_zero (w : World) (d : Nat) (l : List Int) (n : Nat) (hl : l.length = n) : ∀ is : List Nat, (∀ i ∈ is, i < n) →
    (Op.eqItems (d + 1) 5 1 (l.map (fun x => Value.int .u8 x)).toArray (Array.replicate n (Value.int .u8 0)) is).run Tryd.prog w = .ok (is.all fun i => decide (rd l i = 0)) w
  | [], _ => by simp [Op.eqItems]
  | i :: is, h => by
    have hi : i < n := h i (by simp)
    have hi2 : i < l.length := by omega
    have ih := items_zero w d l n hl is (fun j hj => h j (by simp [hj]))
    have p1 : (part 5 (l.map (fun x => Value.int .u8 x)).toArray (i * 1)).run Tryd.prog w = .ok (.int .u8 (rd l i)) w := run_part_plain w (by kernel_rfl) (by simp [rd, hi2])
    have p2 : (part 5 (Array.replicate n (Value.int .u8 0)) (i * 1)).run Tryd.prog w = .ok (.int .u8 0) w := run_part_plain w (by kernel_rfl) (by simp [hi])
    have p3 := run_equalIn_int (P := Tryd.prog) w d 5 .u8 .u8 (rd l i) 0 Tryd.underlying5
    simp only [Op.eqItems, Sem.run_bind, p1, p2, p3, Result.andThen_ok]
    by_cases hz : rd l i = 0
    · simp [hz, ih]
    · simp [hz]

def zArr : Array Value := Array.replicate 512 (Value.int .u8 0)
theorem run_zero_arr (w : World) : (zeroValue 37).run Tryd.prog w = .ok (.agg zArr) w := (zero_of_info (by kernel_rfl : (Tryd.prog.info? 37).map (fun i => (i.zero, i.size)) = some (some (.agg (Array.replicate 512 (Value.int .u8 0))), 512))).1 w
theorem run_build_arr (w : World) : (Instr.build 37 #[]).run Tryd.prog w = .ok (.agg zArr) w := by
  cases hq : Tryd.prog.info? 5 with
  | none => exact absurd hq (by have : (Tryd.prog.info? 5).isSome = true := by kernel_rfl
                                intro e; rw [e] at this; cases this)
  | some i =>
    simp only [Instr.build, Sem.run_bind, run_zero_arr, Result.andThen_ok, run_underlying Tryd.underlying37 w, run_sizeOf w hq]
    simp [Instr.fill, Value.cells]
theorem wp_load_arr {op : Oper} {a : Act} {w : World} {K : Act → World → Prop} {Q : Exit → Act → World → Prop} {x : Operand} (ho : op.op = .load 37 x)
    {ad : Addr} (h : Arr w ad) (hx : a.eval x = .pointer (some ad)) (hk : K (a.put op.dst (.agg (arrOf w ad))) w) : op.wp Tryd.prog a w K Q := by
  unfold Oper.wp execOp
  simp only [ho, hx, Sem.run_bind, Sem.run_pure, Result.andThen_ok, h.ld]
  exact hk
theorem wp_build_arr {op : Oper} {a : Act} {w : World} {K : Act → World → Prop} {Q : Exit → Act → World → Prop} (ho : op.op = .build 37 #[])
    (hk : K (a.put op.dst (.agg zArr)) w) : op.wp Tryd.prog a w K Q := by
  unfold Oper.wp execOp
  simp only [ho, List.map_toArray, List.map_nil, Sem.run_bind, Sem.run_pure, Result.andThen_ok, run_build_arr]
  exact hk
theorem wpList_load_arr {ops : Array Oper} {rest : List Oper} {op : Oper} {a : Act} {w : World} {Q : Exit → Act → World → Prop} {x : Operand} (ho : op.op = .load 37 x)
    {ad : Addr} (h : Arr w ad) (hx : a.eval x = .pointer (some ad)) (hw : Region.wanted op (yielded ops a.tmps) = true) (hk : wpList Tryd.prog ops Q rest (a.put op.dst (.agg (arrOf w ad))) w) : wpList Tryd.prog ops Q (op :: rest) a w :=
  wpList_step fun K hK => by
    simp only [hw, if_true]
    exact wp_load_arr ho h hx (hK _ _ hk)
theorem wpList_build_arr {ops : Array Oper} {rest : List Oper} {op : Oper} {a : Act} {w : World} {Q : Exit → Act → World → Prop} (ho : op.op = .build 37 #[])
    (hw : Region.wanted op (yielded ops a.tmps) = true) (hk : wpList Tryd.prog ops Q rest (a.put op.dst (.agg zArr)) w) : wpList Tryd.prog ops Q (op :: rest) a w :=
  wpList_step fun K hK => by
    simp only [hw, if_true]
    exact wp_build_arr ho (hK _ _ hk)
set_option maxRecDepth 100000 in
theorem sum_Zero.calls (A0 : Option Addr) (c0 : Nat) (l0 : List Int) (r : Bool) (w : World) (hr0 : Kd.C (Kd.int .u8) w A0 l0.length l0) (hc0 : l0.length ≤ c0) (h : sum_Zero.f l0 = some r) :
    Calls Tryd.prog 13 #[.slice A0 l0.length c0] w fun e w' => e = .returned (.bool r) ∧ Below w.heap.size w w' := by
  obtain rfl : (decide (l0.length = 512) && l0.all (fun x => decide (x = 0))) = r := Option.some.inj h
  clear h
  by_cases h5 : l0.length = 512
  · have hn : ((l0.length : Int) == 512) = true := beq_iff_eq.2 (by omega)
    have hn2 : (l0.length < 512) = False := eq_false (by omega)
    obtain ⟨ad, e, hx⟩ := Kd.at_int hr0 0 (by omega) (by omega)
    subst e
    clear hx
    have harr : (Instr.arrayAt 37 (.slice (some ad) l0.length c0)).run Tryd.prog w = .ok (.pointer (some ad)) w := by
      simp [Instr.arrayAt, Sem.run_bind, run_underlying Tryd.underlying37 w, h5]
    have hao := arrOf_eq w ad l0 hr0 h5
    have hld : Arr w ad := ⟨by rw [hao]; exact load_arr w ad l0 hr0 h5⟩
    have heq : (Op.equalIn 10000 37 (.agg (l0.map (fun x => Value.int .u8 x)).toArray) (.agg (Array.replicate 512 (Value.int .u8 0)))).run Tryd.prog w = .ok ((List.range 512).all fun i => decide (rd l0 i = 0)) w := by
      cases hq : Tryd.prog.info? 5 with
      | none => exact absurd hq (by have : (Tryd.prog.info? 5).isSome = true := by kernel_rfl
                                    intro e; rw [e] at this; cases this)
      | some i =>
        rw [run_equalIn_array w 9999 _ _ Tryd.underlying37 hq]
        rw [show Tryd.prog.cellsOf 5 = 1 by kernel_rfl]
        exact items_zero w 9998 l0 512 h5 (List.range 512) (fun i hi => List.mem_range.1 hi)
    have hall : (List.range 512).all (fun i => decide (rd l0 i = 0)) = l0.all (fun x => decide (x = 0)) := by
      rw [Bool.eq_iff_iff, List.all_eq_true, List.all_eq_true]
      constructor
      · intro h x hx
        obtain ⟨j, hj, rfl⟩ := List.getElem_of_mem hx
        have := h j (List.mem_range.2 (by omega))
        simpa [rd, hj] using this
      · intro h i hi
        have hi2 := List.mem_range.1 hi
        have := h (l0[i]'(by omega)) (List.getElem_mem _)
        simpa [rd, show i < l0.length by omega] using this
    rw [hall] at heq
    obtain ⟨b, hb⟩ : ∃ b, b = l0.all (fun x => decide (x = 0)) := ⟨_, rfl⟩
    rw [← hb] at heq ⊢
    rw [← hao] at heq
    clear hao
    rw [show Array.replicate 512 (Value.int .u8 0) = zArr from rfl] at heq
    have H5 := Aside0.mk h5
    clear hr0 h5 hall hb hc0
    go_enter Tryd.func13, Tryd.ntmps13
    have HL := Aside0.mk hld
    clear hld
    go_wp2_with (first | (refine wpList_load_arr rfl HL.out rfl rfl ?_; refine wpList_build_arr rfl rfl ?_))
    go_ret
    exact ⟨by simp [H5.out], by repeat (first | exact Below.refl _ _ | apply pw_below_drewN)⟩
  · have hn : ((l0.length : Int) == 512) = false := beq_eq_false_iff_ne.2 (by omega)
    clear hr0 hc0
    go_enter Tryd.func13, Tryd.ntmps13
    go_wp2
    go_ret
    exact ⟨by simp [h5], by repeat (first | exact Below.refl _ _ | apply pw_below_drewN)⟩
end Go.Proofs.YtmhomfhdelocjaaDoor.P
