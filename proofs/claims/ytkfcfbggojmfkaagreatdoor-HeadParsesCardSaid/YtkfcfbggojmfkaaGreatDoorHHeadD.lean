/- head.caught, head.Parse$1 and head.need: what a frame that panics, and one that returns, has behind them. No conditions. head.Parse over what parse does: the door. Its condition is a contract of parse. head.Print over what print does: the door. Its condition is a contract of print. -/
import Derived.Tactics
import Derived.Tactics2
import Derived.Defers
import Derived.Recover
import Derived.Laws.Pointers
import Derived.WalkKit
import Derived.WalkSmall
import Derived.Laws.Rows
import Derived.Great.BuildSlice
import Derived.Laws.AppendOwn
import Derived.WalkLawsBesides
import Derived.Test.YtkfcfbggojmfkaaGreatDoorProg
import Derived.Test.YtkfcfbggojmfkaaGreatDoorWMore
import Derived.Test.YtkfcfbggojmfkaaGreatDoorWLast
section
namespace Go.Proofs.YtkfcfbggojmfkaaGreatDoor.P
open Go Go.RowKit
set_option linter.unusedVariables false
set_option linter.unusedSimpArgs false

def pan (n : Int) (r : Bool) : PanicEntry := { v := .iface 33 (.int .u16 n), recovered := r }
theorem assert_errno (n : Int) (w : World) : (Instr.typeAssert (.iface 33 (.int .u16 n)) 20 33 false).run Tryz.prog w = .ok (.int .u16 n) w := by
 simp [Instr.typeAssert, go_sem, Tryz.underlying33]
theorem caught_panicking (p : Addr) (x n : Int) (older : List PanicEntry) (w : World) (hc : w.cell? p = some (.int .u16 x)) (hz : w.frozen? p = false) :
  CallsD Tryz.prog 30 #[.pointer (some p)] (.panicking (pan n false :: older)) w fun e u' w' =>
   e = .returned (.tuple #[]) ∧ u' = .panicking (pan n true :: older) ∧ w' = w.setCell p (.int .u16 n) := by
 refine callsD_of_wpS Tryz.func30 rfl fun c₀ cs hu => ?_
 apply wpS_seq
 apply wpS_region
 simp [wpOpsS, go_sem, recoverD, hu, Tryz.ntmps30, Exit.thenS, pan]
 apply wpS_seq
 apply wpS_region
 simp [wpOpsS, go_sem, Exit.thenS]
 refine wpS_cond (t := true) (by simp [Act.eval, Array.replicate]) ?_
 simp only [if_true]
 have ha := assert_errno n w
 refine wpS_of_wp ?_
 go_wp2
 simp [bodyPostS, results, Tryz.results30]
theorem caught_idle (p : Addr) (w : World) :
  CallsD Tryz.prog 30 #[.pointer (some p)] .returning w fun e u' w' => e = .returned (.tuple #[]) ∧ u' = .returning ∧ w' = w := by
 refine callsD_of_wpS Tryz.func30 rfl fun c₀ cs hu => ?_
 apply wpS_seq
 apply wpS_region
 simp [wpOpsS, go_sem, recoverD, hu, Tryz.ntmps30, Exit.thenS]
 apply wpS_seq
 apply wpS_region
 simp [wpOpsS, go_sem, Exit.thenS]
 refine wpS_cond (t := false) (by simp [Act.eval, Array.replicate]) ?_
 simp only [Bool.false_eq_true, if_false]
 refine wpS_of_wp (wp_skip ?_)
 cases c₀
 simp_all [bodyPostS, results, Tryz.results30]
theorem need_ok (n : Int) (w : World) : Calls Tryz.prog 57 #[.bool true, .int .u16 n] w fun e w' => e = .returned (.tuple #[]) ∧ w' = w := by
 go_enter Tryz.func57, Tryz.ntmps57
 go_wp2
 go_end0
 exact ⟨rfl, rfl⟩
theorem need_not (n : Int) (w : World) : Calls Tryz.prog 57 #[.bool false, .int .u16 n] w fun e w' => e = .panicked [pan n false] ∧ w' = w := by
 go_enter Tryz.func57, Tryz.ntmps57
 go_wp2
 exact ⟨rfl, rfl, rfl⟩
def zeroH : Array Value := #[.string ByteArray.empty, .int .i64 0, .int .i64 0, .int .i64 0, .int .i64 0, .int .i64 0, .int .u8 0, .string ByteArray.empty, .int .i64 0, .string ByteArray.empty, .string ByteArray.empty, .int .i64 0, .int .i64 0, .string ByteArray.empty, .slice none 0 0, .bool false, .int .i64 0]
theorem setRow_same {w : World} {g : Nat} {t : TypeId} {old cells : Array Value} (h : w.heap[g]? = some (.cells old t (0, 0))) : (w.setRow g cells).heap[g]? = some (.cells cells t (0, 0)) := by
 unfold World.setRow
 simp [h, Array.getElem?_modify]
theorem setRow_far (w : World) (g k : Nat) (cells : Array Value) (h : g ≠ k) : (w.setRow g cells).heap[k]? = w.heap[k]? := by
 unfold World.setRow
 simp [Array.getElem?_modify, h]
theorem setRow_size (w : World) (g : Nat) (cells : Array Value) : (w.setRow g cells).heap.size = w.heap.size := by unfold World.setRow; simp
theorem grown_setRow (w : World) (g : Nat) (cells : Array Value) : w.grownBy (w.setRow g cells) (some g) := ⟨rfl, rfl, rfl, by rw [setRow_size]; exact Nat.le_refl _, fun k _ hne => setRow_far w g k cells (fun e => hne (by rw [e]))⟩
theorem parse1_err (pe ph : Nat) (n : Int) (u : FrameMode) (w : World) (hn : (n == 0) = false) (hc : w.heap[pe]? = some (.cells #[.int .u16 n] 33 (0, 0))) (cs : Array Value) (hk : w.heap[ph]? = some (.cells cs 31 (0, 0))) (hs : cs.size = 17) :
  CallsD Tryz.prog 29 #[.pointer (some ⟨pe, 0, none⟩), .pointer (some ⟨ph, 0, none⟩)] u w fun e u' w' => u' = u ∧ (e = .returned (.tuple #[]) ∧ w' = w.setRow ph zeroH) := by
 have h0 : w.cell? ⟨pe, 0, none⟩ = some (.int .u16 n) := by simp [World.cell?, hc]
 have hn2 : (n != 0) = true := by simp [bne, hn]
 have hn3 : (n = 0) = False := eq_false (by simpa using hn)
 go_enter_d Tryz.func29, Tryz.ntmps29
 go_wp2_with (first | (refine wpList_buildTo rfl 31 #[] rfl (some 4) rfl zeroH (by kernel_rfl) ?_) | (refine wpList_store_rowTo rfl 31 _ _ rfl rfl ph zeroH rfl rfl 31 cs hk (by kernel_rfl) (by rw [hs]; rfl) (by kernel_rfl) ?_))
 go_end0
 exact ⟨rfl, rfl⟩
theorem parse1_ok (pe ph : Addr) (u : FrameMode) (w : World) (hc : w.cell? pe = some (.int .u16 0)) :
  CallsD Tryz.prog 29 #[.pointer (some pe), .pointer (some ph)] u w fun e u' w' => u' = u ∧ (e = .returned (.tuple #[]) ∧ w' = w) := by
 go_enter_d Tryz.func29, Tryz.ntmps29
 go_wp2
 go_end0
 exact ⟨rfl, rfl⟩
end Go.Proofs.YtkfcfbggojmfkaaGreatDoor.P
end

section
namespace Go.Proofs.YtkfcfbggojmfkaaGreatDoor.P
open Go Go.RowKit Go.Proofs.YtkfcfbggojmfkaaGreatDoorW.PrintWords Go.Proofs.YtkfcfbggojmfkaaGreatDoorW.PrintLast Go.Proofs.YtkfcfbggojmfkaaGreatDoorW.PrintMore
set_option linter.unusedVariables false
set_option linter.unusedSimpArgs false

theorem results_two {fn : Func} {p q : Tmp} {ty ty2 : TypeId} (h : fn.results = #[.cell p ty, .cell q ty2]) (tmps : Array Value) (w : World) (a0 : Addr) (v0 : Value) (a : Addr) (v : Value)
  (hp : tmps.getD p undef = .pointer (some a0)) (hq : tmps.getD q undef = .pointer (some a)) {P : Program}
  (hl0 : (loadVar ty a0).run P w = .ok v0 w) (hl : (loadVar ty2 a).run P w = .ok v w) :
  (results fn tmps).run P w = .ok (.tuple #[v0, v]) w := by
 have hp' : tmps[p]?.getD undef = .pointer (some a0) := by simpa using hp
 have hq' : tmps[q]?.getD undef = .pointer (some a) := by simpa using hq
 simp [results, h, hp', hq', asAddr, hl0, hl]
theorem load_header (g : Nat) (cs : Array Value) (w : World) (hs : cs.size = 17) (hg : w.heap[g]? = some (.cells cs 31 (0, 0))) : (loadVar 31 ⟨g, 0, none⟩).run Tryz.prog w = .ok (.agg cs) w :=
 run_loadVar_row w g 31 31 cs (0, 0) _ hg Tryz.underlying31 rfl (by rw [hs]; kernel_rfl)
theorem load_errno (a : Addr) (x : Int) (w : World) (hc : w.cell? a = some (.int .u16 x)) : (loadVar 33 a).run Tryz.prog w = .ok (.int .u16 x) w := by
 simp [go_sem, hc]
theorem head_Parse.door_ok {β : Type} (D : Kd β) (e0 : Nat) (A : Option Addr) (n c : Nat) (r1 : ByteArray) (r2 : Int) (r3 : Int) (r4 : Int) (r5 : Int) (r6 : Int) (r7 : Int) (r8 : ByteArray) (r9 : Int) (r10 : ByteArray) (r11 : ByteArray) (r12 : Int) (r13 : Int) (r14 : ByteArray) (r16 : Bool) (r17 : Int) (l : List β) (w : World) (hp : ∀ W : World, Below w.heap.size w W → Calls Tryz.prog 31 #[.slice A n c] W fun e w' => Below W.heap.size W w' ∧ ∃ v14, e = .returned (.agg #[.string r1, .int .i64 r2, .int .i64 r3, .int .i64 r4, .int .i64 r5, .int .i64 r6, .int .u8 r7, .string r8, .int .i64 r9, .string r10, .string r11, .int .i64 r12, .int .i64 r13, .string r14, v14, .bool r16, .int .i64 r17]) ∧ Kd.R D e0 w' W.heap.size (fun _ => True) v14 l) :
  Calls Tryz.prog 13 #[.slice A n c] w fun e w' => ∃ v14, e = .returned (.tuple #[.agg #[.string r1, .int .i64 r2, .int .i64 r3, .int .i64 r4, .int .i64 r5, .int .i64 r6, .int .u8 r7, .string r8, .int .i64 r9, .string r10, .string r11, .int .i64 r12, .int .i64 r13, .string r14, v14, .bool r16, .int .i64 r17], .int .u16 0]) ∧ Kd.R D e0 w' w.heap.size (fun _ => True) v14 l ∧ Below w.heap.size w w' := by
 have hmf : ∀ (fn : Fn) (first cap : Array Value) (w : World), (Instr.makeFunc fn first cap).run Tryz.prog w = .ok (.func fn first cap) w := fun _ _ _ _ => rfl
 have hS : ((w.alloc (.cells zeroH 31)).alloc (.cells #[.int .u16 0] 33)).heap.size = w.heap.size + 2 := by simp [go_sem]
 have hA : ((w.alloc (.cells zeroH 31)).alloc (.cells #[.int .u16 0] 33)).heap[w.heap.size + 1]? = some (.cells #[.int .u16 0] 33 (0, 0)) := by unfold World.alloc; rw [Array.getElem?_push, if_pos (by simp)]
 have hH : ((w.alloc (.cells zeroH 31)).alloc (.cells #[.int .u16 0] 33)).heap[w.heap.size]? = some (.cells zeroH 31 (0, 0)) := by unfold World.alloc; rw [Array.getElem?_push, if_neg (by simp), Array.getElem?_push, if_pos (by simp)]
 have hB0 : Below w.heap.size w ((w.alloc (.cells zeroH 31)).alloc (.cells #[.int .u16 0] 33)) := below_alloc (below_alloc (Below.refl w.heap.size w) _) _
 go_enter_defers Tryz.func13, Tryz.ntmps13
 go_wp2_with (first | (go_at_call 31; refine (hp ((w.alloc (.cells zeroH 31)).alloc (.cells #[.int .u16 0] 33)) hB0).mono ?_; rintro e w1 ⟨hb, v14, rfl, hR⟩; have hbk : w1.heap[w.heap.size + 1]? = some (.cells #[.int .u16 0] 33 (0, 0)) := (hb.block _ (by rw [hS]; omega)).trans hA; have hbh : w1.heap[w.heap.size]? = some (.cells zeroH 31 (0, 0)) := (hb.block _ (by rw [hS]; omega)).trans hH; have hce := blk_cell hbk 0; have hfz := blk_frozen hbk 0) | (refine wpList_store_rowTo rfl 31 _ _ rfl rfl w.heap.size #[.string r1, .int .i64 r2, .int .i64 r3, .int .i64 r4, .int .i64 r5, .int .i64 r6, .int .u8 r7, .string r8, .int .i64 r9, .string r10, .string r11, .int .i64 r12, .int .i64 r13, .string r14, v14, .bool r16, .int .i64 r17] rfl rfl 31 zeroH hbh (by kernel_rfl) rfl (by have h_ := (Kd.R_val hR).2; simp [h_]; repeat (first | exact rfl | refine ⟨rfl, ?_⟩)) ?_; have hbk9 : (w1.setRow w.heap.size #[.string r1, .int .i64 r2, .int .i64 r3, .int .i64 r4, .int .i64 r5, .int .i64 r6, .int .u8 r7, .string r8, .int .i64 r9, .string r10, .string r11, .int .i64 r12, .int .i64 r13, .string r14, v14, .bool r16, .int .i64 r17]).heap[w.heap.size + 1]? = some (.cells #[.int .u16 0] 33 (0, 0)) := (setRow_far w1 _ _ _ (by omega)).trans hbk; have hce9 := blk_cell hbk9 0; have hfz9 := blk_frozen hbk9 0))
 have hbk2 := blk_set hbk9 0 (.int .u16 0)
 have hbh2 := blk_far (p := ⟨w.heap.size + 1, 0, none⟩) (setRow_same (cells := #[.string r1, .int .i64 r2, .int .i64 r3, .int .i64 r4, .int .i64 r5, .int .i64 r6, .int .u8 r7, .string r8, .int .i64 r9, .string r10, .string r11, .int .i64 r12, .int .i64 r13, .string r14, v14, .bool r16, .int .i64 r17]) hbh) (Nat.ne_of_lt (Nat.lt_succ_self _)) (.int .u16 0)
 have hR2 := Kd.R_lower (Kd.R_mono (Kd.R_far (p := ⟨w.heap.size + 1, 0, none⟩) (Kd.R_grown (Kd.R_bound hR) (grown_setRow w1 w.heap.size #[.string r1, .int .i64 r2, .int .i64 r3, .int .i64 r4, .int .i64 r5, .int .i64 r6, .int .u8 r7, .string r8, .int .i64 r9, .string r10, .string r11, .int .i64 r12, .int .i64 r13, .string r14, v14, .bool r16, .int .i64 r17]) (fun k hk h_ => by have h1_ := hk.2.1; rw [hS] at h1_; injection h_ with h2_; omega)) (fun k hk => by have h_ := hk.2.1; rw [hS] at h_; show k ≠ w.heap.size + 1; omega) (.int .u16 0)) (ok' := fun _ => True) (fun _ _ => trivial)) (base' := w.heap.size) (by rw [hS]; omega)
 have hB1 := below_step hB0 hb
 have hB2 : Below w.heap.size w ((w1.setRow w.heap.size #[.string r1, .int .i64 r2, .int .i64 r3, .int .i64 r4, .int .i64 r5, .int .i64 r6, .int .u8 r7, .string r8, .int .i64 r9, .string r10, .string r11, .int .i64 r12, .int .i64 r13, .string r14, v14, .bool r16, .int .i64 r17]).setCell ⟨w.heap.size + 1, 0, none⟩ (.int .u16 0)) := below_set (pw_below_grown hB1 (some w.heap.size) hB1.size (grown_setRow w1 w.heap.size #[.string r1, .int .i64 r2, .int .i64 r3, .int .i64 r4, .int .i64 r5, .int .i64 r6, .int .u8 r7, .string r8, .int .i64 r9, .string r10, .string r11, .int .i64 r12, .int .i64 r13, .string r14, v14, .bool r16, .int .i64 r17]) (fun k hk => by injection hk with hk; omega)) (Nat.le_succ _)
 refine leaves_cons (f := 30) (args := #[.pointer (some ⟨w.heap.size + 1, 0, none⟩)]) (by simp) (by simp [go_sem]) ?_
 refine (caught_idle ⟨w.heap.size + 1, 0, none⟩ _).mono ?_
 rintro e u' w'' ⟨rfl, rfl, rfl⟩
 refine leaves_cons (f := 29) (args := #[.pointer (some ⟨w.heap.size + 1, 0, none⟩), .pointer (some ⟨w.heap.size, 0, none⟩)]) (by show (FrameMode.returning : FrameMode) ≠ .run; simp) (by simp [go_sem]) ?_
 refine (parse1_ok ⟨w.heap.size + 1, 0, none⟩ ⟨w.heap.size, 0, none⟩ _ _ (blk_cell hbk2 0)).mono ?_
 rintro e u' w'' ⟨rfl, rfl, rfl⟩
 exact ⟨_, (results_two (p := 2) (q := 3) rfl _ _ ⟨w.heap.size, 0, none⟩ _ ⟨w.heap.size + 1, 0, none⟩ _ rfl rfl (load_header _ #[.string r1, .int .i64 r2, .int .i64 r3, .int .i64 r4, .int .i64 r5, .int .i64 r6, .int .u8 r7, .string r8, .int .i64 r9, .string r10, .string r11, .int .i64 r12, .int .i64 r13, .string r14, v14, .bool r16, .int .i64 r17] _ rfl hbh2) (load_errno _ _ _ (blk_cell hbk2 0))), v14, rfl, hR2, hB2⟩
theorem head_Parse.door_err (A : Option Addr) (n c : Nat) (x : Int) (hx : (x == 0) = false) (w : World) (hp : ∀ W : World, Below w.heap.size w W → Calls Tryz.prog 31 #[.slice A n c] W fun e w' => Below W.heap.size W w' ∧ e = .panicked [pan x false]) :
  Calls Tryz.prog 13 #[.slice A n c] w fun e w' => e = .returned (.tuple #[.agg zeroH, .int .u16 x]) ∧ Below w.heap.size w w' := by
 have hmf : ∀ (fn : Fn) (first cap : Array Value) (w : World), (Instr.makeFunc fn first cap).run Tryz.prog w = .ok (.func fn first cap) w := fun _ _ _ _ => rfl
 have hS : ((w.alloc (.cells zeroH 31)).alloc (.cells #[.int .u16 0] 33)).heap.size = w.heap.size + 2 := by simp [go_sem]
 have hA : ((w.alloc (.cells zeroH 31)).alloc (.cells #[.int .u16 0] 33)).heap[w.heap.size + 1]? = some (.cells #[.int .u16 0] 33 (0, 0)) := by unfold World.alloc; rw [Array.getElem?_push, if_pos (by simp)]
 have hH : ((w.alloc (.cells zeroH 31)).alloc (.cells #[.int .u16 0] 33)).heap[w.heap.size]? = some (.cells zeroH 31 (0, 0)) := by unfold World.alloc; rw [Array.getElem?_push, if_neg (by simp), Array.getElem?_push, if_pos (by simp)]
 have hB0 : Below w.heap.size w ((w.alloc (.cells zeroH 31)).alloc (.cells #[.int .u16 0] 33)) := below_alloc (below_alloc (Below.refl w.heap.size w) _) _
 go_enter_defers Tryz.func13, Tryz.ntmps13
 go_wp2_with (first | (go_at_call 31; refine (hp ((w.alloc (.cells zeroH 31)).alloc (.cells #[.int .u16 0] 33)) hB0).mono ?_; rintro e w1 ⟨hb, rfl⟩; have hbk : w1.heap[w.heap.size + 1]? = some (.cells #[.int .u16 0] 33 (0, 0)) := (hb.block _ (by rw [hS]; omega)).trans hA; have hbh : w1.heap[w.heap.size]? = some (.cells zeroH 31 (0, 0)) := (hb.block _ (by rw [hS]; omega)).trans hH; have hce := blk_cell hbk 0; have hfz := blk_frozen hbk 0))
 have hbk2 := blk_set hbk 0 (.int .u16 x)
 have hbh2 := blk_far (p := ⟨w.heap.size + 1, 0, none⟩) hbh (Nat.ne_of_lt (Nat.lt_succ_self _)) (.int .u16 x)
 refine leaves_cons (f := 30) (args := #[.pointer (some ⟨w.heap.size + 1, 0, none⟩)]) (by simp [pan]) (by simp [go_sem]) ?_
 refine (caught_panicking ⟨w.heap.size + 1, 0, none⟩ 0 x [] _ hce hfz).mono ?_
 rintro e u' w'' ⟨rfl, rfl, rfl⟩
 refine leaves_cons (f := 29) (args := #[.pointer (some ⟨w.heap.size + 1, 0, none⟩), .pointer (some ⟨w.heap.size, 0, none⟩)]) (by show (FrameMode.returning : FrameMode) ≠ .run; simp) (by simp [go_sem]) ?_
 refine (parse1_err (w.heap.size + 1) w.heap.size x _ _ hx hbk2 zeroH hbh2 rfl).mono ?_
 rintro e u' w'' ⟨rfl, rfl, rfl⟩
 have hbh3 := setRow_same (cells := zeroH) hbh2
 have hbk3 := (setRow_far (w1.setCell ⟨w.heap.size + 1, 0, none⟩ (.int .u16 x)) w.heap.size (w.heap.size + 1) zeroH (by omega)).trans hbk2
 have hB1 := below_set (j := 0) (v := .int .u16 x) (below_step hB0 hb) (Nat.le_succ w.heap.size)
 have hB2 : Below w.heap.size w ((w1.setCell ⟨w.heap.size + 1, 0, none⟩ (.int .u16 x)).setRow w.heap.size zeroH) := pw_below_grown hB1 (some w.heap.size) hB1.size (grown_setRow _ w.heap.size zeroH) (fun k hk => by injection hk with hk; omega)
 exact ⟨_, (results_two (p := 2) (q := 3) rfl _ _ ⟨w.heap.size, 0, none⟩ _ ⟨w.heap.size + 1, 0, none⟩ _ rfl rfl (load_header _ zeroH _ rfl hbh3) (load_errno _ _ _ (blk_cell hbk3 0))), rfl, hB2⟩
end Go.Proofs.YtkfcfbggojmfkaaGreatDoor.P
end

section
namespace Go.Proofs.YtkfcfbggojmfkaaGreatDoor.P
open Go Go.RowKit Go.Proofs.YtkfcfbggojmfkaaGreatDoorW.PrintWords Go.Proofs.YtkfcfbggojmfkaaGreatDoorW.PrintLast Go.Proofs.YtkfcfbggojmfkaaGreatDoorW.PrintMore
set_option linter.unusedVariables false
set_option linter.unusedSimpArgs false

theorem head_Print.door_ok (v0 v1 v2 v3 v4 v5 v6 v7 v8 v9 v10 v11 v12 v13 v14 v15 v16 : Value) (b : List Int) (w : World) (hp : ∀ W : World, Below w.heap.size w W → Calls Tryz.prog 32 #[.agg #[v0, v1, v2, v3, v4, v5, v6, v7, v8, v9, v10, v11, v12, v13, v14, v15, v16]] W fun e w' => Below W.heap.size W w' ∧ ∃ v, e = .returned v ∧ Kd.R (Kd.int .u8) 97 w' W.heap.size (fun _ => True) v b) :
  Calls Tryz.prog 14 #[.agg #[v0, v1, v2, v3, v4, v5, v6, v7, v8, v9, v10, v11, v12, v13, v14, v15, v16]] w fun e w' => ∃ v, e = .returned (.tuple #[v, .int .u16 0]) ∧ Kd.R (Kd.int .u8) 97 w' w.heap.size (fun _ => True) v b ∧ Below w.heap.size w w' := by
 have hmf : ∀ (fn : Fn) (first cap : Array Value) (w : World), (Instr.makeFunc fn first cap).run Tryz.prog w = .ok (.func fn first cap) w := fun _ _ _ _ => rfl
 have hS : ((w.alloc (.cells #[v0, v1, v2, v3, v4, v5, v6, v7, v8, v9, v10, v11, v12, v13, v14, v15, v16] 31)).alloc (.cells #[.int .u16 0] 33)).heap.size = w.heap.size + 2 := by simp [go_sem]
 have hA : ((w.alloc (.cells #[v0, v1, v2, v3, v4, v5, v6, v7, v8, v9, v10, v11, v12, v13, v14, v15, v16] 31)).alloc (.cells #[.int .u16 0] 33)).heap[w.heap.size + 1]? = some (.cells #[.int .u16 0] 33 (0, 0)) := by unfold World.alloc; rw [Array.getElem?_push, if_pos (by simp)]
 go_enter_defers Tryz.func14, Tryz.ntmps14
 go_wp2_with (go_at_call 32; refine (hp _ ?side).mono ?_; (case side => exact below_alloc (below_alloc (Below.refl w.heap.size w) _) _); rintro e w1 ⟨hb, v, rfl, hR⟩; have hbk : w1.heap[w.heap.size + 1]? = some (.cells #[.int .u16 0] 33 (0, 0)) := (hb.block _ (by rw [hS]; omega)).trans hA; have hce := blk_cell hbk 0; have hfz := blk_frozen hbk 0; have hsz : w.heap.size + 2 ≤ w1.heap.size := by have h_ := hb.size; rw [hS] at h_; exact h_)
 have hbk2 := blk_set hbk 0 (.int .u16 0)
 have hc2 : (w1.setCell ⟨w.heap.size + 1, 0, none⟩ (.int .u16 0)).cell? ⟨w.heap.size + 1, 0, none⟩ = some (.int .u16 0) := blk_cell hbk2 0
 have hR2 : Kd.R (Kd.int .u8) 97 (w1.setCell ⟨w.heap.size + 1, 0, none⟩ (.int .u16 0)) w.heap.size (fun _ => True) v b := Kd.R_lower (Kd.R_mono (Kd.R_far (p := ⟨w.heap.size + 1, 0, none⟩) (Kd.R_bound hR) (fun k hk => by have h_ := hk.2.1; rw [hS] at h_; show k ≠ w.heap.size + 1; omega) _) (fun _ _ => trivial)) (by rw [hS]; omega)
 have hB2 : Below w.heap.size w (w1.setCell ⟨w.heap.size + 1, 0, none⟩ (.int .u16 0)) := below_set (below_step (below_alloc (below_alloc (Below.refl w.heap.size w) _) _) hb) (Nat.le_succ _)
 refine leaves_cons (f := 30) (args := #[.pointer (some ⟨w.heap.size + 1, 0, none⟩)]) (by simp) (by simp [go_sem]) ?_
 refine (caught_idle ⟨w.heap.size + 1, 0, none⟩ _).mono ?_
 rintro e u' w'' ⟨rfl, rfl, rfl⟩
 simp [Leaves, settle, results, Tryz.results14, go_sem, hc2]
 first | exact ⟨hR2, hB2⟩ | exact ⟨_, rfl, _, rfl, hR2, hB2⟩ | exact ⟨_, rfl, hR2, hB2⟩
theorem head_Print.door_err (v0 v1 v2 v3 v4 v5 v6 v7 v8 v9 v10 v11 v12 v13 v14 v15 v16 : Value) (n : Int) (w : World) (hp : ∀ W : World, Below w.heap.size w W → Calls Tryz.prog 32 #[.agg #[v0, v1, v2, v3, v4, v5, v6, v7, v8, v9, v10, v11, v12, v13, v14, v15, v16]] W fun e w' => Below W.heap.size W w' ∧ e = .panicked [pan n false]) :
  Calls Tryz.prog 14 #[.agg #[v0, v1, v2, v3, v4, v5, v6, v7, v8, v9, v10, v11, v12, v13, v14, v15, v16]] w fun e w' => ∃ v, e = .returned (.tuple #[v, .int .u16 n]) ∧ Kd.R (Kd.int .u8) 97 w' w.heap.size (fun _ => True) v [] ∧ Below w.heap.size w w' := by
 have hmf : ∀ (fn : Fn) (first cap : Array Value) (w : World), (Instr.makeFunc fn first cap).run Tryz.prog w = .ok (.func fn first cap) w := fun _ _ _ _ => rfl
 have hS : ((w.alloc (.cells #[v0, v1, v2, v3, v4, v5, v6, v7, v8, v9, v10, v11, v12, v13, v14, v15, v16] 31)).alloc (.cells #[.int .u16 0] 33)).heap.size = w.heap.size + 2 := by simp [go_sem]
 have hA : ((w.alloc (.cells #[v0, v1, v2, v3, v4, v5, v6, v7, v8, v9, v10, v11, v12, v13, v14, v15, v16] 31)).alloc (.cells #[.int .u16 0] 33)).heap[w.heap.size + 1]? = some (.cells #[.int .u16 0] 33 (0, 0)) := by unfold World.alloc; rw [Array.getElem?_push, if_pos (by simp)]
 go_enter_defers Tryz.func14, Tryz.ntmps14
 go_wp2_with (go_at_call 32; refine (hp _ ?side).mono ?_; (case side => exact below_alloc (below_alloc (Below.refl w.heap.size w) _) _); rintro e w1 ⟨hb, rfl⟩; have hbk : w1.heap[w.heap.size + 1]? = some (.cells #[.int .u16 0] 33 (0, 0)) := (hb.block _ (by rw [hS]; omega)).trans hA; have hce := blk_cell hbk 0; have hfz := blk_frozen hbk 0; have hsz : w.heap.size + 2 ≤ w1.heap.size := by have h_ := hb.size; rw [hS] at h_; exact h_)
 have hbk2 := blk_set hbk 0 (.int .u16 n)
 have hc2 : (w1.setCell ⟨w.heap.size + 1, 0, none⟩ (.int .u16 n)).cell? ⟨w.heap.size + 1, 0, none⟩ = some (.int .u16 n) := blk_cell hbk2 0
 have hB2 : Below w.heap.size w (w1.setCell ⟨w.heap.size + 1, 0, none⟩ (.int .u16 n)) := below_set (below_step (below_alloc (below_alloc (Below.refl w.heap.size w) _) _) hb) (Nat.le_succ _)
 refine leaves_cons (f := 30) (args := #[.pointer (some ⟨w.heap.size + 1, 0, none⟩)]) (by simp [pan]) (by simp [go_sem]) ?_
 refine (caught_panicking ⟨w.heap.size + 1, 0, none⟩ 0 n [] _ hce hfz).mono ?_
 rintro e u' w'' ⟨rfl, rfl, rfl⟩
 simp [Leaves, settle, results, Tryz.results14, go_sem, pan, hc2]
 first | exact ⟨Kd.R_nil _ _ _ _ _, hB2⟩ | exact ⟨_, rfl, _, rfl, Kd.R_nil _ _ _ _ _, hB2⟩ | exact ⟨_, rfl, Kd.R_nil _ _ _ _ _, hB2⟩
end Go.Proofs.YtkfcfbggojmfkaaGreatDoor.P
end
