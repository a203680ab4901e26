/- bytes.TrimLeft at one blank, bytes.Trim at a blank and a nought: what they hand back, for every slice of bytes. No conditions. num.Octal: what it tells of every slice of bytes. No conditions. -/
import Derived.Test.YtkfcfbggojmfkaaGreatDoorPx0
import Derived.Test.YtkfcfbggojmfkaaGreatDoorHLayT
section
namespace Go.Proofs.YtkfcfbggojmfkaaGreatDoor.P
open Go.RowKit Go.Shelf Go.Lib Go.Proofs.YtkfcfbggojmfkaaGreatDoorW.PrintWords Go.Proofs.YtkfcfbggojmfkaaGreatDoorW.PrintLast Go.Proofs.YtkfcfbggojmfkaaGreatDoorW.PrintMore
set_option linter.unusedVariables false
set_option linter.unusedSimpArgs false

theorem hinfo5 : (Tryz.prog.info? 5).map (fun i => (i.zero, i.size, i.bytes)) = some (some (.int .u8 0), 1, 1) := by kernel_rfl

set_option maxHeartbeats 1000000 in
theorem trimLeftByte_calls (A0 : Option Addr) (c0 : Nat) (l0 : List Int) (cc : Int) (w : World) (hr0 : Kd.C (Kd.int .u8) w A0 l0.length l0) (hc0 : l0.length ≤ c0) :
  Calls Tryz.prog 109 #[.slice A0 l0.length c0, .int .u8 cc] w fun e w' => ∃ (A' : Option Addr) (c' : Nat), e = .returned (.slice A' (l0.dropWhile (fun x => decide (x = cc))).length c') ∧ (l0.dropWhile (fun x => decide (x = cc))).length ≤ c' ∧
   Kd.C (Kd.int .u8) w A' (l0.dropWhile (fun x => decide (x = cc))).length (l0.dropWhile (fun x => decide (x = cc))) ∧ Drawn0 w w' := by
 obtain ⟨r, hr⟩ : ∃ r, r = l0.dropWhile (fun x => decide (x = cc)) := ⟨_, rfl⟩
 rw [← hr]
 have HR0 := Aside0.mk hr0
 have HC0 := Aside0.mk hc0
 have HD0 := Aside0.mk hr.symm
 clear hr0 hc0 hr
 go_enter Tryz.func109, Tryz.ntmps109
 go_wp2
 go_loopg [0] l0.length (fun kq v0 w' => ∃ (A1 : Option Addr) (c1 : Nat) (x : List Int), v0 = .slice A1 x.length c1 ∧ Aside0 (x.length ≤ kq) ∧ Aside0 (x.length ≤ c1) ∧ Aside0 (Kd.C (Kd.int .u8) w A1 x.length x) ∧ Aside0 (x.dropWhile (fun y => decide (y = cc)) = r) ∧ Drawn0 w w')
 case atStart => exact ⟨A0, c0, l0, rfl, ⟨Nat.le_refl _⟩, HC0, HR0, HD0, Drawn0.refl _⟩
 case round =>
  obtain ⟨A1, c1, x, rfl, HK, HC, HR, HD, ⟨m1, rfl⟩⟩ := hrel
  by_cases c3 : 0 < (x.length : Int)
  ·have c3b0 : decide (0 < (x.length : Int)) = true := decide_eq_true c3
   have c3b1 : decide (0 < x.length) = true := decide_eq_true (by omega)
   have c3b2 : ((x.length : Int) == 0) = false := beq_eq_false_iff_ne.mpr (by omega)
   have c3b3 : ¬ (x = []) := fun h_ => by rw [h_] at c3; simp at c3
   obtain ⟨ad, e, hx⟩ := Kd.at_int HR.out 0 (by omega) c3
   subst e
   rw [show ((0 : Int)).toNat = 0 from rfl, Addr.add_zero'] at hx
   have hdw : x.dropWhile (fun y => decide (y = cc)) = if rd x 0 = cc then (x.drop 1).dropWhile (fun y => decide (y = cc)) else x := by
    cases x with
    | nil => simp at c3
    | cons y t => by_cases hy : y = cc <;> simp [rd, hy]
   by_cases c5 : rd x 0 = cc
   ·rw [if_pos c5] at hdw
    have HD' := Aside0.mk (hdw.symm.trans HD.out)
    clear hdw HD
    have c5b0 : (rd x 0 == cc) = true := beq_iff_eq.mpr c5
    clear c5
    obtain ⟨i08, hi08, _, hsz8, _⟩ := info_parts hinfo5
    have hcut := cut_from (P := Tryz.prog) 22 5 .i64 Tryz.underlying22 hi08 1 hsz8 (some ad) x.length c1 1 (by omega) (by omega)
    have hC := Kd.C_drop (m := (1 : Int).toNat) (c := c1) HR.out (by have := Int.toNat_of_nonneg (show (0:Int) ≤ 1 by omega); omega) HC.out
    obtain ⟨A8, hA8⟩ : ∃ A2, A2 = (if c1 = (1 : Int).toNat then (some ad) else ((some ad) : Option Addr).map (·.add ((1 : Int).toNat * 1))) := ⟨_, rfl⟩
    obtain ⟨c8, hc8⟩ : ∃ c2, c2 = c1 - (1 : Int).toNat := ⟨_, rfl⟩
    obtain ⟨y, hy⟩ : ∃ y, y = x.drop 1 := ⟨_, rfl⟩
    have hyl : y.length = x.length - (1 : Int).toNat := by rw [hy, List.length_drop]; rfl
    rw [show x.drop (1 : Int).toNat = y from hy.symm] at hC
    replace hC : Kd.C (Kd.int .u8) w A8 y.length y := by rw [hA8]; exact hC
    rw [← hyl, ← hA8, ← hc8] at hcut
    have HC8 := Aside0.mk (show y.length ≤ c8 from by rw [hyl, hc8]; exact Nat.sub_le_sub_right HC.out _)
    have HR8 := Aside0.mk hC
    rw [← hy] at HD'
    have HK8 := Aside0.mk (show y.length < gk from by have := HK.out; rw [hyl]; simp; omega)
    clear hC hyl hA8 hc8 hy hi08 hsz8 HK HC HR
    have qi : (0 < x.length) = True := eq_true (by omega)
    have c3b := eq_true c3
    clear c3
    go_wp2
    obtain ⟨k1, rfl⟩ : ∃ k1, gk = k1 + 1 := ⟨gk - 1, by have := HK8.out; omega⟩
    go_roundg k1
    case measure => omega
    case rel => exact ⟨A8, c8, y, rfl, ⟨by have := HK8.out; omega⟩, HC8, HR8, HD', by repeat (first | exact Drawn0.refl _ | apply Drawn0.step)⟩
   ·rw [if_neg c5] at hdw
    obtain rfl : x = r := hdw.symm.trans HD.out
    have c5b0 : (rd x 0 == cc) = false := beq_eq_false_iff_ne.mpr c5
    clear c5 hdw HD
    have qi : (0 < x.length) = True := eq_true (by omega)
    have c3b := eq_true c3
    clear c3
    go_wp2
    go_ret
    exact ⟨_, _, rfl, HC.out, HR.out, by repeat (first | exact Drawn0.refl _ | apply Drawn0.step)⟩
  ·have hx0 : x = [] := List.eq_nil_of_length_eq_zero (by omega)
   subst hx0
   obtain rfl : r = [] := HD.out.symm
   clear c3
   go_wp2
   go_ret
   exact ⟨none, 0, rfl, Nat.le_refl _, Kd.C_nil _ _, by repeat (first | exact Drawn0.refl _ | apply Drawn0.step)⟩

theorem contains_calls (g : Nat) (v : Bool) (x : Int) (w : World) (h0 : 0 ≤ x) (h1 : x < 256) (hc : w.cell? ⟨g, x.toNat, none⟩ = some (.bool v)) :
  Calls Tryz.prog 124 #[.pointer (some ⟨g, 0, none⟩), .int .u8 x] w fun e w' => e = .returned (.bool v) ∧ Drawn0 w w' := by
 go_enter Tryz.func124, Tryz.ntmps124
 go_wp2
 go_ret
 exact ⟨rfl, by repeat (first | exact Drawn0.refl _ | apply Drawn0.step)⟩

def SetIs (w : World) (g : Nat) (tab : Int → Bool) : Prop := ∀ x : Int, 0 ≤ x → x < 256 → w.cell? ⟨g, x.toNat, none⟩ = some (.bool (tab x))
def Bytes (l : List Int) : Prop := ∀ x ∈ l, 0 ≤ x ∧ x < 256
theorem Bytes.rdb {l : List Int} (h : Bytes l) (i : Int) (h0 : 0 ≤ i) (h1 : i < l.length) : 0 ≤ rd l i ∧ rd l i < 256 := by
 have : rd l i = l[i.toNat]'(by omega) := by unfold rd; simp [List.getD, show i.toNat < l.length by omega]
 rw [this]
 exact h _ (List.getElem_mem _)
theorem Bytes.drop {l : List Int} (h : Bytes l) (n : Nat) : Bytes (l.drop n) := fun x hx => h x (List.mem_of_mem_drop hx)
theorem Bytes.take {l : List Int} (h : Bytes l) (n : Nat) : Bytes (l.take n) := fun x hx => h x (List.mem_of_mem_take hx)

set_option maxHeartbeats 1000000 in
theorem trimLeftASCII_calls (A0 : Option Addr) (c0 : Nat) (l0 : List Int) (g : Nat) (tab : Int → Bool) (w : World) (hr0 : Kd.C (Kd.int .u8) w A0 l0.length l0) (hc0 : l0.length ≤ c0) (hb : Bytes l0) (hs : SetIs w g tab) :
  Calls Tryz.prog 112 #[.slice A0 l0.length c0, .pointer (some ⟨g, 0, none⟩)] w fun e w' => ∃ (A' : Option Addr) (c' : Nat), e = .returned (.slice A' (l0.dropWhile tab).length c') ∧ (l0.dropWhile tab).length ≤ c' ∧
   Kd.C (Kd.int .u8) w A' (l0.dropWhile tab).length (l0.dropWhile tab) ∧ Drawn0 w w' := by
 obtain ⟨r, hr⟩ : ∃ r, r = l0.dropWhile tab := ⟨_, rfl⟩
 rw [← hr]
 have HR0 := Aside0.mk hr0
 have HC0 := Aside0.mk hc0
 have HD0 := Aside0.mk hr.symm
 have HB0 := Aside0.mk hb
 have HS := Aside0.mk hs
 clear hr0 hc0 hr hb hs
 go_enter Tryz.func112, Tryz.ntmps112
 go_wp2
 go_loopg [0] l0.length (fun kq v0 w' => ∃ (A1 : Option Addr) (c1 : Nat) (x : List Int), v0 = .slice A1 x.length c1 ∧ Aside0 (x.length ≤ kq) ∧ Aside0 (x.length ≤ c1) ∧ Aside0 (Kd.C (Kd.int .u8) w A1 x.length x) ∧ Aside0 (x.dropWhile tab = r) ∧ Aside0 (Bytes x) ∧ Drawn0 w w')
 case atStart => exact ⟨A0, c0, l0, rfl, ⟨Nat.le_refl _⟩, HC0, HR0, HD0, HB0, Drawn0.refl _⟩
 case round =>
  obtain ⟨A1, c1, x, rfl, HK, HC, HR, HD, HBx, ⟨m1, rfl⟩⟩ := hrel
  by_cases c3 : 0 < (x.length : Int)
  ·have c3b0 : decide (0 < (x.length : Int)) = true := decide_eq_true c3
   have c3b1 : decide (0 < x.length) = true := decide_eq_true (by omega)
   have c3b2 : ((x.length : Int) == 0) = false := beq_eq_false_iff_ne.mpr (by omega)
   have c3b3 : ¬ (x = []) := fun h_ => by rw [h_] at c3; simp at c3
   obtain ⟨ad, e, hx⟩ := Kd.at_int HR.out 0 (by omega) c3
   subst e
   rw [show ((0 : Int)).toNat = 0 from rfl, Addr.add_zero'] at hx
   have hdw : x.dropWhile tab = if tab (rd x 0) = true then (x.drop 1).dropWhile tab else x := by
    cases x with
    | nil => simp at c3
    | cons y t => by_cases hy : tab y = true <;> simp [rd, hy]
   obtain ⟨hb0, hb1⟩ := HBx.out.rdb 0 (by omega) c3
   have HK' := Aside0.mk (contains_calls g (tab (rd x 0)) (rd x 0) (w.drewN m1) hb0 hb1 (by rw [World.cell?_drewN]; exact HS.out _ hb0 hb1))
   clear hb0 hb1
   by_cases c5 : tab (rd x 0) = true
   ·rw [if_pos c5] at hdw
    have HD' := Aside0.mk (hdw.symm.trans HD.out)
    clear hdw HD
    rw [c5] at HK'
    clear c5
    obtain ⟨i08, hi08, _, hsz8, _⟩ := info_parts hinfo5
    have hcut := cut_from (P := Tryz.prog) 22 5 .i64 Tryz.underlying22 hi08 1 hsz8 (some ad) x.length c1 1 (by omega) (by omega)
    have hC := Kd.C_drop (m := (1 : Int).toNat) (c := c1) HR.out (by have := Int.toNat_of_nonneg (show (0:Int) ≤ 1 by omega); omega) HC.out
    obtain ⟨A8, hA8⟩ : ∃ A2, A2 = (if c1 = (1 : Int).toNat then (some ad) else ((some ad) : Option Addr).map (·.add ((1 : Int).toNat * 1))) := ⟨_, rfl⟩
    obtain ⟨c8, hc8⟩ : ∃ c2, c2 = c1 - (1 : Int).toNat := ⟨_, rfl⟩
    obtain ⟨y, hy⟩ : ∃ y, y = x.drop 1 := ⟨_, rfl⟩
    have hyl : y.length = x.length - (1 : Int).toNat := by rw [hy, List.length_drop]; rfl
    rw [show x.drop (1 : Int).toNat = y from hy.symm] at hC
    replace hC : Kd.C (Kd.int .u8) w A8 y.length y := by rw [hA8]; exact hC
    rw [← hyl, ← hA8, ← hc8] at hcut
    have HC8 := Aside0.mk (show y.length ≤ c8 from by rw [hyl, hc8]; exact Nat.sub_le_sub_right HC.out _)
    have HR8 := Aside0.mk hC
    have HB8 := Aside0.mk (show Bytes y from by rw [hy]; exact HBx.out.drop 1)
    rw [← hy] at HD'
    have HK8 := Aside0.mk (show y.length < gk from by have := HK.out; rw [hyl]; simp; omega)
    clear hC hyl hA8 hc8 hy hi08 hsz8 HK HC HR
    have qi : (0 < x.length) = True := eq_true (by omega)
    have c3b := eq_true c3
    clear c3
    go_wp2_with (first | (go_at_call 124; (with_reducible refine HK'.out.mono ?_); rintro e w' ⟨rfl, ⟨nd, rfl⟩⟩))
    obtain ⟨k1, rfl⟩ : ∃ k1, gk = k1 + 1 := ⟨gk - 1, by have := HK8.out; omega⟩
    go_roundg k1
    case measure => omega
    case rel => exact ⟨A8, c8, y, rfl, ⟨by have := HK8.out; omega⟩, HC8, HR8, HD', HB8, by repeat (first | exact Drawn0.refl _ | apply Drawn0.step)⟩
   ·rw [if_neg c5] at hdw
    obtain rfl : x = r := hdw.symm.trans HD.out
    rw [show tab (rd x 0) = false by simpa using c5] at HK'
    clear c5 hdw HD
    have qi : (0 < x.length) = True := eq_true (by omega)
    have c3b := eq_true c3
    clear c3
    go_wp2_with (first | (go_at_call 124; (with_reducible refine HK'.out.mono ?_); rintro e w' ⟨rfl, ⟨nd, rfl⟩⟩))
    go_ret
    exact ⟨_, _, rfl, HC.out, HR.out, by repeat (first | exact Drawn0.refl _ | apply Drawn0.step)⟩
  ·have hx0 : x = [] := List.eq_nil_of_length_eq_zero (by omega)
   subst hx0
   obtain rfl : r = [] := HD.out.symm
   clear c3
   go_wp2
   go_ret
   exact ⟨none, 0, rfl, Nat.le_refl _, Kd.C_nil _ _, by repeat (first | exact Drawn0.refl _ | apply Drawn0.step)⟩

def dropEnd (tab : Int → Bool) (l : List Int) : List Int := (l.reverse.dropWhile tab).reverse
theorem dropEnd_take (tab : Int → Bool) (l : List Int) (n : Nat) (hn : n < l.length) (hp : tab (rd l n) = true) : dropEnd tab (l.take (n + 1)) = dropEnd tab (l.take n) := by
 have e : l.take (n + 1) = l.take n ++ [rd l n] := by
  rw [List.take_succ_eq_append_getElem hn]
  unfold rd
  simp [List.getD, hn]
 unfold dropEnd
 rw [e, List.reverse_append]
 simp [hp]
theorem dropEnd_stop (tab : Int → Bool) (l : List Int) (n : Nat) (hn : n < l.length) (hp : tab (rd l n) = false) : dropEnd tab (l.take (n + 1)) = l.take (n + 1) := by
 have e : l.take (n + 1) = l.take n ++ [rd l n] := by
  rw [List.take_succ_eq_append_getElem hn]
  unfold rd
  simp [List.getD, hn]
 unfold dropEnd
 rw [e, List.reverse_append]
 simp [hp]

set_option maxHeartbeats 1000000 in
theorem trimRightASCII_calls (A0 : Option Addr) (c0 : Nat) (l0 : List Int) (g : Nat) (tab : Int → Bool) (w : World) (hr0 : Kd.C (Kd.int .u8) w A0 l0.length l0) (hc0 : l0.length ≤ c0) (hb : Bytes l0) (hs : SetIs w g tab) :
  Calls Tryz.prog 113 #[.slice A0 l0.length c0, .pointer (some ⟨g, 0, none⟩)] w fun e w' => ∃ m : Nat, m ≤ l0.length ∧ l0.take m = dropEnd tab l0 ∧ e = .returned (.slice A0 m c0) ∧ Drawn0 w w' := by
 have HR := Aside0.mk hr0
 have HC := Aside0.mk hc0
 have HBx := Aside0.mk hb
 have HS := Aside0.mk hs
 have hmax : l0.length ≤ 9223372036854775807 := hr0.2.1
 clear hr0 hc0 hb hs
 go_enter Tryz.func113, Tryz.ntmps113
 go_wp2
 go_loopg [0] l0.length (fun kq v0 w' => ∃ n : Nat, v0 = .slice A0 n c0 ∧ Aside0 (n ≤ kq) ∧ Aside0 (n ≤ l0.length) ∧ Aside0 (dropEnd tab (l0.take n) = dropEnd tab l0) ∧ Drawn0 w w')
 case atStart => exact ⟨l0.length, rfl, ⟨Nat.le_refl _⟩, ⟨Nat.le_refl _⟩, ⟨by rw [List.take_length]⟩, Drawn0.refl _⟩
 case round =>
  obtain ⟨n, rfl, HK, HN, HD, ⟨m1, rfl⟩⟩ := hrel
  by_cases c3 : 0 < (n : Int)
  ·obtain ⟨t, rfl⟩ : ∃ t, n = t + 1 := ⟨n - 1, by omega⟩
   have hN := HN.out
   have c3b0 : decide (0 < ((t + 1 : Nat) : Int)) = true := decide_eq_true c3
   obtain ⟨ad, e, hx⟩ := Kd.at_int HR.out (t : Int) (by omega) (by omega)
   subst e
   rw [Int.toNat_natCast] at hx
   obtain ⟨hb0, hb1⟩ := HBx.out.rdb (t : Int) (by omega) (by omega)
   have HK' := Aside0.mk (contains_calls g (tab (rd l0 t)) (rd l0 t) (w.drewN m1) hb0 hb1 (by rw [World.cell?_drewN]; exact HS.out _ hb0 hb1))
   clear hb0 hb1
   have k1 : (t : Int) + 1 - 1 = t := by omega
   have k2 : (t : Int) < (t : Int) + 1 := by omega
   have qc : (t ≤ c0) = True := eq_true (by have := HC.out; omega)
   by_cases c5 : tab (rd l0 t) = true
   ·have HD' := Aside0.mk ((dropEnd_take tab l0 t (by omega) c5).symm.trans HD.out)
    rw [c5] at HK'
    clear c5 HD
    have HKt := Aside0.mk (show t < gk from by have := HK.out; omega)
    have HNt := Aside0.mk (show t ≤ l0.length from by omega)
    clear HK HN
    go_wp2_with (first | (go_at_call 124; (with_reducible refine HK'.out.mono ?_); rintro e w' ⟨rfl, ⟨nd, rfl⟩⟩))
    obtain ⟨kk, rfl⟩ : ∃ k1, gk = k1 + 1 := ⟨gk - 1, by have := HKt.out; omega⟩
    go_roundg kk
    case measure => omega
    case rel => exact ⟨t, rfl, ⟨by have := HKt.out; omega⟩, HNt, HD', by repeat (first | exact Drawn0.refl _ | apply Drawn0.step)⟩
   ·have c5' : tab (rd l0 t) = false := by simpa using c5
    have hst := dropEnd_stop tab l0 t (by omega) c5'
    have HF := Aside0.mk (hst.symm.trans HD.out)
    rw [c5'] at HK'
    clear c5 c5' hst HD
    go_wp2_with (first | (go_at_call 124; (with_reducible refine HK'.out.mono ?_); rintro e w' ⟨rfl, ⟨nd, rfl⟩⟩))
    go_ret
    exact ⟨t + 1, hN, HF.out, rfl, by repeat (first | exact Drawn0.refl _ | apply Drawn0.step)⟩
  ·obtain rfl : n = 0 := by omega
   clear c3
   go_wp2
   go_ret
   exact ⟨0, Nat.zero_le _, by have := HD.out; simpa [dropEnd] using this, rfl, by repeat (first | exact Drawn0.refl _ | apply Drawn0.step)⟩

theorem dropWhile_nil_iff (tab : Int → Bool) : ∀ l : List Int, l.dropWhile tab = [] ↔ ∀ x ∈ l, tab x = true
 | [] => by simp
 | y :: t => by
  by_cases h : tab y = true
  ·simp [h, dropWhile_nil_iff tab t]
  ·simp [h]
def blankB (x : Int) : Bool := decide (x = 32) || decide (x = 0)
theorem dropEnd_nil_iff (tab : Int → Bool) (l : List Int) : dropEnd tab l = [] ↔ ∀ x ∈ l, tab x = true := by
 unfold dropEnd
 rw [List.reverse_eq_nil_iff, dropWhile_nil_iff]
 constructor <;> intro h x hx
 ·exact h x (List.mem_reverse.2 hx)
 ·exact h x (List.mem_reverse.1 hx)
theorem dropEnd_last (tab : Int → Bool) (l : List Int) (h : dropEnd tab l ≠ []) : ∃ x ∈ dropEnd tab l, tab x = false := by
 unfold dropEnd at h ⊢
 rw [ne_eq, List.reverse_eq_nil_iff] at h
 obtain ⟨y, t, e⟩ := List.exists_cons_of_ne_nil h
 refine ⟨y, by rw [e]; simp, ?_⟩
 have := List.head?_dropWhile_not (p := tab) l.reverse
 rw [e] at this
 simpa using this
theorem trim_nil_iff (tab : Int → Bool) (l : List Int) : (dropEnd tab l).dropWhile tab = [] ↔ ∀ x ∈ l, tab x = true := by
 rw [dropWhile_nil_iff]
 constructor
 ·intro h
  rw [← dropEnd_nil_iff]
  by_cases e : dropEnd tab l = []
  ·exact e
  ·obtain ⟨x, hx, hf⟩ := dropEnd_last tab l e
   rw [h x hx] at hf
   cases hf
 ·intro h x hx
  rw [(dropEnd_nil_iff tab l).2 h] at hx
  cases hx

theorem set2_at (x : Int) (h0 : 0 ≤ x) (h1 : x < 256) : (Lib.setCells [32, 0])[x.toNat]? = some (.bool (blankB x)) := by
 have h := Lib.setCells_at [32, 0] (UInt8.ofNat x.toNat)
 have e : (UInt8.ofNat x.toNat).toNat = x.toNat := by simp; omega
 rw [e] at h
 have e1 : (UInt8.ofNat x.toNat == 32) = decide (x = 32) := by
  rw [Bool.eq_iff_iff]
  simp only [beq_iff_eq, decide_eq_true_eq, ← UInt8.toNat_inj, e]
  have : (32 : UInt8).toNat = 32 := rfl
  omega
 have e2 : (UInt8.ofNat x.toNat == 0) = decide (x = 0) := by
  rw [Bool.eq_iff_iff]
  simp only [beq_iff_eq, decide_eq_true_eq, ← UInt8.toNat_inj, e]
  have : (0 : UInt8).toNat = 0 := rfl
  omega
 have e3 : ([32, 0] : List UInt8).contains (UInt8.ofNat x.toNat) = blankB x := by
  rw [show ([32, 0] : List UInt8).contains (UInt8.ofNat x.toNat) = ((UInt8.ofNat x.toNat == 32) || ((UInt8.ofNat x.toNat == 0) || false)) from rfl, e1, e2, Bool.or_false]
  rfl
 rw [h, e3]

set_option maxHeartbeats 4000000 in
theorem trim2_calls (A0 : Option Addr) (c0 : Nat) (l0 : List Int) (w : World) (hr0 : Kd.C (Kd.int .u8) w A0 l0.length l0) (hc0 : l0.length ≤ c0) (hb : Bytes l0) :
  Calls Tryz.prog 96 #[.slice A0 l0.length c0, .string ⟨#[32, 0]⟩] w fun e w' => ∃ (A' : Option Addr) (c' n' : Nat), e = .returned (.slice A' n' c') ∧ (n' = 0 ↔ ∀ x ∈ l0, blankB x = true) ∧ Below w.heap.size w w' := by
 by_cases h0 : l0.length = 0
 ·have hn0 : ((l0.length : Int) == 0) = true := beq_iff_eq.2 (by omega)
  obtain rfl : l0 = [] := List.eq_nil_of_length_eq_zero h0
  clear hr0 hc0 hb h0
  go_enter Tryz.func96, Tryz.ntmps96
  go_wp2
  go_ret
  exact ⟨_, _, _, rfl, by simp, Below.refl _ _⟩
 obtain ⟨S, hS⟩ : ∃ S, S = Lib.setCells [32, 0] := ⟨_, rfl⟩
 have hM := Any.bytes_makeASCIISet { Tryz.lays34 with } (zero_of_info (by kernel_rfl : (Tryz.prog.info? 115).map (fun i => (i.zero, i.size)) = some (some (.agg (Array.replicate 256 (.bool false))), 256))).1 (zero_of_info (by kernel_rfl : (Tryz.prog.info? 115).map (fun i => (i.zero, i.size)) = some (some (.agg (Array.replicate 256 (.bool false))), 256))).2 ⟨#[32, 0]⟩ w (by decide) (ascii_of_all (by decide))
 change Calls Tryz.prog 111 #[.string ⟨#[32, 0]⟩] w (fun e w' => e = .returned (.tuple #[.agg (Lib.setCells [32, 0]), .bool true]) ∧ w' = w.alloc (.cells (Lib.setCells [32, 0]) 115)) at hM
 rw [← hS] at hM
 have hsz : S.size = 256 := by rw [hS]; exact Lib.setCells_size _
 have hsc : (storeCells ⟨w.heap.size + 1, 0, none⟩ S.toList 0).run Tryz.prog ((w.alloc (.cells S 115)).alloc (.cells (Array.replicate 256 (.bool false)) 115)) = .ok () ((w.alloc (.cells S 115)).alloc (.cells S 115)) := by
  have := run_storeCells_new (P := Tryz.prog) (w.alloc (.cells S 115)) 115 (Array.replicate 256 (.bool false)) S (by rw [hsz]; kernel_rfl) (by rw [hsz, Array.size_replicate]) (by rw [hS]; exact Lib.setCells_one _)
  simpa using this
 have hset : SetIs ((w.alloc (.cells S 115)).alloc (.cells S 115)) (w.heap.size + 1) blankB := fun x hx0 hx1 => by
  rw [World.cell?_alloc_at _ _ _ _ (by simp), hS]
  exact set2_at x hx0 hx1
 have hB2 : Below w.heap.size w ((w.alloc (.cells S 115)).alloc (.cells S 115)) := ((Below.refl _ _).alloc (Nat.le_refl _) _).alloc (by simp) _
 obtain ⟨W2, hW2⟩ : ∃ W2, W2 = (w.alloc (.cells S 115)).alloc (.cells S 115) := ⟨_, rfl⟩
 have hr2 : Kd.C (Kd.int .u8) W2 A0 l0.length l0 := Kd.C_below hr0 (by rw [hW2]; exact hB2)
 have hset2 : SetIs W2 (w.heap.size + 1) blankB := by rw [hW2]; exact hset
 have hTR := trimRightASCII_calls A0 c0 l0 (w.heap.size + 1) blankB W2 hr2 hc0 hb hset2
 have HTL : Aside0 (∀ (m nd : Nat), m ≤ l0.length → l0.take m = dropEnd blankB l0 → Calls Tryz.prog 112 #[.slice A0 m c0, .pointer (some ⟨w.heap.size + 1, 0, none⟩)] (W2.drewN nd) fun e w' => ∃ (A' : Option Addr) (c' : Nat), e = .returned (.slice A' ((dropEnd blankB l0).dropWhile blankB).length c') ∧ ∃ n, w' = W2.drewN n) := ⟨fun m nd hm he => by
  have hl : m = (l0.take m).length := by rw [List.length_take]; omega
  rw [← he, hl]
  have hC := Kd.C_drewN (Kd.C_take hr2 hm) nd
  rw [show ((l0.take (l0.take m).length)) = l0.take m by rw [← hl]]
  refine (trimLeftASCII_calls A0 c0 (l0.take m) (w.heap.size + 1) blankB (W2.drewN nd) hC (by rw [← hl]; omega) (hb.take m) (fun x a b => by rw [World.cell?_drewN]; exact hset2 x a b)).mono ?_
  rintro e w' ⟨A', c', rfl, _, _, ⟨n, rfl⟩⟩
  exact ⟨A', c', rfl, nd + n, World.drewN_drewN ..⟩⟩
 have HT := Aside0.mk (trim_nil_iff blankB l0)
 have HB2 := Aside0.mk (show Below w.heap.size w W2 by rw [hW2]; exact hB2)
 rw [← hW2] at hsc
 have HW2 := Aside0.mk hW2
 have hn0 : ((l0.length : Int) == 0) = false := beq_eq_false_iff_ne.2 (by omega)
 have hz : ∀ w, (zeroValue 115).run Tryz.prog w = .ok (.agg (Array.replicate 256 (.bool false))) w := (zero_of_info (by kernel_rfl : (Tryz.prog.info? 115).map (fun i => (i.zero, i.size)) = some (some (.agg (Array.replicate 256 (.bool false))), 256))).1
 clear hr0 hc0 hb h0 hr2 hset2 hset hB2 hW2 hS
 go_enter Tryz.func96, Tryz.ntmps96
 go_wp2_with (go_at_call 111; refine hM.mono ?_; rintro e w' ⟨rfl, hw⟩; rw [hw])
 refine hTR.mono ?_
 rintro e w1 ⟨m, hm, he, rfl, ⟨nd, rfl⟩⟩
 have hTL := HTL.out m nd hm he
 clear hm he hTR
 go_wp2_with (go_at_call 112; refine hTL.mono ?_; rintro e w1 ⟨A', c', rfl, n, rfl⟩)
 go_ret
 exact ⟨_, _, _, rfl, by rw [← HT.out]; exact List.length_eq_zero_iff, pw_below_drewN HB2.out _⟩

set_option maxHeartbeats 1000000 in
set_option maxRecDepth 100000 in
theorem trimLeft1_calls (A0 : Option Addr) (c0 : Nat) (l0 : List Int) (w : World) (hr0 : Kd.C (Kd.int .u8) w A0 l0.length l0) (hc0 : l0.length ≤ c0) :
  Calls Tryz.prog 102 #[.slice A0 l0.length c0, .string ⟨#[32]⟩] w fun e w' => ∃ (A' : Option Addr) (c' : Nat), e = .returned (.slice A' (l0.dropWhile (fun x => decide (x = 32))).length c') ∧ (l0.dropWhile (fun x => decide (x = 32))).length ≤ c' ∧
   Kd.C (Kd.int .u8) w A' (l0.dropWhile (fun x => decide (x = 32))).length (l0.dropWhile (fun x => decide (x = 32))) ∧ Drawn0 w w' := by
 by_cases h0 : l0.length = 0
 ·have hn0 : ((l0.length : Int) == 0) = true := beq_iff_eq.2 (by omega)
  obtain rfl : l0 = [] := List.eq_nil_of_length_eq_zero h0
  clear hr0 hc0 h0
  go_enter Tryz.func102, Tryz.ntmps102
  go_wp2
  go_ret
  exact ⟨none, 0, rfl, Nat.le_refl _, Kd.C_nil _ _, Drawn0.refl _⟩
 have hn0 : ((l0.length : Int) == 0) = false := beq_eq_false_iff_ne.2 (by omega)
 have HT := trimLeftByte_calls A0 c0 l0 32 w hr0 hc0
 obtain ⟨r, hr⟩ : ∃ r, r = l0.dropWhile (fun x => decide (x = 32)) := ⟨_, rfl⟩
 rw [← hr] at HT ⊢
 have HT' := Aside0.mk HT
 clear hr0 hc0 h0 hr HT
 go_enter Tryz.func102, Tryz.ntmps102
 go_wp2_with (go_at_call 109; refine HT'.out.mono ?_; rintro e w1 ⟨A', c', rfl, h1, h2, ⟨nd, rfl⟩⟩; have h1' := Aside0.mk h1; have h2' := Aside0.mk h2; clear h1 h2)
 go_ret
 exact ⟨_, _, rfl, h1'.out, h2'.out, by repeat (first | exact Drawn0.refl _ | apply Drawn0.step)⟩

end Go.Proofs.YtkfcfbggojmfkaaGreatDoor.P
end

section
namespace Go.Proofs.YtkfcfbggojmfkaaGreatDoor.P
open Go.RowKit Go.Shelf Go.Lib Go.Proofs.YtkfcfbggojmfkaaGreatDoorW.PrintWords Go.Proofs.YtkfcfbggojmfkaaGreatDoorW.PrintLast Go.Proofs.YtkfcfbggojmfkaaGreatDoorW.PrintMore
set_option linter.unusedVariables false
set_option linter.unusedSimpArgs false

def octLoop : List Int → Int → Option (Int × List Int)
 | [], n => some (n, [])
 | x :: t, n => if 48 ≤ x ∧ x ≤ 55 then (if n > 576460752303423488 ∨ 8 * n + (x - 48) > 4611686018427387904 then none else octLoop t (8 * n + (x - 48))) else some (n, x :: t)
def octRes : Option (Int × List Int) → Int × Bool
 | none => (0, false)
 | some (n, r) => if r.all blankB = true then (n, true) else (0, false)
def octF (l : List Int) : Int × Bool := octRes (octLoop (l.dropWhile (fun x => decide (x = 32))) 0)
theorem octLoop_digit (x : List Int) (n : Int) (hx : 0 < x.length) (h1 : 48 ≤ rd x 0) (h2 : rd x 0 ≤ 55) : octLoop x n = if n > 576460752303423488 ∨ 8 * n + (rd x 0 - 48) > 4611686018427387904 then none else octLoop (x.drop 1) (8 * n + (rd x 0 - 48)) := by
 cases x with
 | nil => simp at hx
 | cons y t =>
  have e : rd (y :: t) 0 = y := rfl
  rw [e] at h1 h2 ⊢
  simp [octLoop, h1, h2]
theorem octLoop_other (x : List Int) (n : Int) (h : x.length = 0 ∨ rd x 0 < 48 ∨ 55 < rd x 0) : octLoop x n = some (n, x) := by
 cases x with
 | nil => rfl
 | cons y t =>
  have e : rd (y :: t) 0 = y := rfl
  rw [e] at h
  simp only [octLoop]
  rw [if_neg]
  simp at h
  omega
def bytesB (l : List Int) : Bool := l.all fun x => decide (0 ≤ x) && decide (x < 256)
theorem bytesB_iff (l : List Int) : bytesB l = true ↔ Bytes l := by simp [bytesB, Bytes]
def num_Octal.f (l0 : List Int) : Option (Int × Bool) := if bytesB l0 = true then some (octF l0) else none

theorem add3_great (n d : Int) (w : World) (h : 576460752303423488 < n) : Calls Tryz.prog 103 #[.int .i64 n, .int .u64 3, .int .i64 d] w fun e w' => e = .returned (.tuple #[.int .i64 0, .bool false]) ∧ Drawn0 w w' := by
 have c1 : decide (576460752303423488 < n) = true := decide_eq_true h
 go_enter Tryz.func103, Tryz.ntmps103
 go_wp2
 go_ret2
 exact ⟨rfl, by repeat (first | exact Drawn0.refl _ | apply Drawn0.step)⟩
theorem add3_more (n d : Int) (w : World) (h0 : 0 ≤ n) (h : n ≤ 576460752303423488) (hd : 0 ≤ d) (hd7 : d ≤ 7) : Calls Tryz.prog 103 #[.int .i64 n, .int .u64 3, .int .i64 d] w fun e w' => e = .returned (.tuple #[.int .i64 (8 * n + d), .bool (decide (8 * n + d ≤ 4611686018427387904))]) ∧ Drawn0 w w' := by
 have c1 : decide (576460752303423488 < n) = false := decide_eq_false (by omega)
 have c2 : decide (n < -576460752303423488 - 1) = false := decide_eq_false (by omega)
 have c2' : decide (n < -576460752303423489) = false := decide_eq_false (by omega)
 have c4 : decide (-4611686018427387904 ≤ n * 8 + d) = true := decide_eq_true (by omega)
 by_cases h5 : 8 * n + d ≤ 4611686018427387904
 ·have c3 : decide (n * 8 + d ≤ 4611686018427387904) = true := decide_eq_true (by omega)
  go_enter Tryz.func103, Tryz.ntmps103
  go_wp2
  go_ret2
  exact ⟨by simp [h5]; omega, by repeat (first | exact Drawn0.refl _ | apply Drawn0.step)⟩
 ·have c3 : decide (n * 8 + d ≤ 4611686018427387904) = false := decide_eq_false (by omega)
  go_enter Tryz.func103, Tryz.ntmps103
  go_wp2
  go_ret2
  exact ⟨by simp [h5]; omega, by repeat (first | exact Drawn0.refl _ | apply Drawn0.step)⟩

set_option maxHeartbeats 4000000 in
set_option maxRecDepth 100000 in
theorem num_Octal.calls (A0 : Option Addr) (c0 : Nat) (l0 : List Int) (r1 : Int) (r2 : Bool) (w : World) (hr0 : Kd.C (Kd.int .u8) w A0 l0.length l0) (hc0 : l0.length ≤ c0) (h : num_Octal.f l0 = some (r1, r2)) :
  Calls Tryz.prog 86 #[.slice A0 l0.length c0] w fun e w' => e = .returned (.tuple #[.int .i64 r1, .bool r2]) ∧ Below w.heap.size w w' := by
 unfold num_Octal.f at h
 by_cases hb : bytesB l0 = true
 ·rw [if_pos hb] at h
  rw [bytesB_iff] at hb
  have HF := Aside0.mk (Option.some.inj h)
  have HB0 := Aside0.mk hb
  have HR0 := Aside0.mk hr0
  have HC0 := Aside0.mk hc0
  clear hr0 hc0 h hb
  go_enter Tryz.func86, Tryz.ntmps86
  have HT := Aside0.mk (trimLeft1_calls A0 c0 l0 w HR0.out HC0.out)
  have HBd : Bytes (l0.dropWhile (fun x => decide (x = 32))) := fun x hx => HB0.out x (List.dropWhile_sublist _ |>.mem hx)
  have HF2 : Aside0 (octRes (octLoop (l0.dropWhile (fun x => decide (x = 32))) 0) = (r1, r2)) := ⟨HF.out⟩
  obtain ⟨l1, hl1⟩ : ∃ l1, l1 = l0.dropWhile (fun x => decide (x = 32)) := ⟨_, rfl⟩
  rw [← hl1] at HT HBd HF2
  have HB1 := Aside0.mk HBd
  clear HBd hl1 HF HB0
  go_wp2_with (go_at_call 102; refine HT.out.mono ?_; rintro e w1 ⟨A1, c1, rfl, h1, h2, ⟨nd, rfl⟩⟩; have HC1 := Aside0.mk h1; have HR1 := Aside0.mk h2; clear h1 h2 HT)
  go_loopg [0, 4] l1.length (fun kq v0 v4 w' => ∃ (A2 : Option Addr) (c2 : Nat) (x : List Int) (n : Int), v0 = .slice A2 x.length c2 ∧ v4 = .int .i64 n ∧ Aside0 (x.length ≤ kq) ∧ Aside0 (x.length ≤ c2) ∧ Aside0 (Kd.C (Kd.int .u8) w A2 x.length x) ∧ Aside0 (Bytes x) ∧ Aside0 (0 ≤ n) ∧ Aside0 (octRes (octLoop x n) = (r1, r2)) ∧ Drawn0 w w')
  case atStart => exact ⟨A1, c1, l1, 0, rfl, rfl, ⟨Nat.le_refl _⟩, HC1, HR1, HB1, ⟨Int.le_refl _⟩, HF2, by repeat (first | exact Drawn0.refl _ | apply Drawn0.step)⟩
  case round =>
   clear HF2 HB1 HC1 HR1
   obtain ⟨A2, c2, x, n, rfl, rfl, HK, HC, HR, HBx, HN, HF, ⟨m1, rfl⟩⟩ := hrel
   have hend : ∀ (h : x.length = 0 ∨ rd x 0 < 48 ∨ 55 < rd x 0) , Aside0 ((if x.all blankB = true then (n, true) else (0, false)) = (r1, r2)) := fun h => ⟨by rw [← HF.out, octLoop_other x n h]; rfl⟩
   have HT := Aside0.mk (fun nd : Nat => trim2_calls A2 c2 x (w.drewN nd) (Kd.C_drewN HR.out nd) HC.out HBx.out)
   by_cases c3 : 0 < (x.length : Int)
   ·have c3b0 : decide (0 < (x.length : Int)) = true := decide_eq_true c3
    have c3b1 : decide (0 < x.length) = true := decide_eq_true (by omega)
    obtain ⟨ad, e, hx⟩ := Kd.at_int HR.out 0 (by omega) c3
    subst e
    rw [show ((0 : Int)).toNat = 0 from rfl, Addr.add_zero'] at hx
    obtain ⟨hb0, hb1⟩ := HBx.out.rdb 0 (by omega) c3
    have qi : (0 < x.length) = True := eq_true (by omega)
    by_cases c5 : 48 ≤ rd x 0
    ·have c5b0 : decide (48 ≤ rd x 0) = true := decide_eq_true c5
     by_cases c6 : rd x 0 ≤ 55
     ·have c6b0 : decide (rd x 0 ≤ 55) = true := decide_eq_true c6
      have hdg := octLoop_digit x n (by omega) c5 c6
      have e1 : (rd x 0 - 48) % 256 = rd x 0 - 48 := by omega
      by_cases c7 : n > 576460752303423488
      ·rw [if_pos (Or.inl c7)] at hdg
       have hfin : Aside0 (((0, false) : Int × Bool) = (r1, r2)) := ⟨by rw [← HF.out, hdg]; rfl⟩
       have HA := Aside0.mk (fun nd : Nat => add3_great n (rd x 0 - 48) (w.drewN nd) (by omega))
       clear hdg HF hend HT c3 c5 c6 c7
       obtain ⟨rfl, rfl⟩ := Prod.mk.inj hfin.out
       clear hfin
       go_wp2_with (go_at_call 103; refine (HA.out _).mono ?_; rintro e w1 ⟨rfl, ⟨nd, rfl⟩⟩)
       go_ret2
       exact ⟨rfl, by repeat (first | exact Below.refl _ _ | apply pw_below_drewN)⟩
      ·have HA := Aside0.mk (fun nd : Nat => add3_more n (rd x 0 - 48) (w.drewN nd) HN.out (by omega) (by omega) (by omega))
       by_cases q8 : 8 * n + (rd x 0 - 48) > 4611686018427387904
       ·rw [if_pos (Or.inr q8)] at hdg
        have hfin : Aside0 (((0, false) : Int × Bool) = (r1, r2)) := ⟨by rw [← HF.out, hdg]; rfl⟩
        rw [show decide (8 * n + (rd x 0 - 48) ≤ 4611686018427387904) = false from decide_eq_false (by omega)] at HA
        clear hdg HF hend HT c3 c5 c6 c7 q8
        obtain ⟨rfl, rfl⟩ := Prod.mk.inj hfin.out
        clear hfin
        go_wp2_with (go_at_call 103; refine (HA.out _).mono ?_; rintro e w1 ⟨rfl, ⟨nd, rfl⟩⟩)
        go_ret2
        exact ⟨rfl, by repeat (first | exact Below.refl _ _ | apply pw_below_drewN)⟩
       ·rw [if_neg (by omega)] at hdg
        have HF2 : Aside0 (octRes (octLoop (x.drop 1) (8 * n + (rd x 0 - 48))) = (r1, r2)) := ⟨by rw [← hdg, HF.out]⟩
        rw [show decide (8 * n + (rd x 0 - 48) ≤ 4611686018427387904) = true from decide_eq_true (by omega)] at HA
        have HN2 : Aside0 (0 ≤ 8 * n + (rd x 0 - 48)) := ⟨by have := HN.out; omega⟩
        obtain ⟨n2, hn2⟩ : ∃ n2, n2 = 8 * n + (rd x 0 - 48) := ⟨_, rfl⟩
        rw [← hn2] at HF2 HA HN2
        obtain ⟨i08, hi08, _, hsz8, _⟩ := info_parts hinfo5
        have hcut := cut_from (P := Tryz.prog) 22 5 .i64 Tryz.underlying22 hi08 1 hsz8 (some ad) x.length c2 1 (by omega) (by omega)
        have hC := Kd.C_drop (m := (1 : Int).toNat) (c := c2) HR.out (by have := Int.toNat_of_nonneg (show (0:Int) ≤ 1 by omega); omega) HC.out
        obtain ⟨A8, hA8⟩ : ∃ A2, A2 = (if c2 = (1 : Int).toNat then (some ad) else ((some ad) : Option Addr).map (·.add ((1 : Int).toNat * 1))) := ⟨_, rfl⟩
        obtain ⟨c8, hc8⟩ : ∃ c3, c3 = c2 - (1 : Int).toNat := ⟨_, rfl⟩
        obtain ⟨y, hy⟩ : ∃ y, y = x.drop 1 := ⟨_, rfl⟩
        have hyl : y.length = x.length - (1 : Int).toNat := by rw [hy, List.length_drop]; rfl
        rw [show x.drop (1 : Int).toNat = y from hy.symm] at hC
        replace hC : Kd.C (Kd.int .u8) w A8 y.length y := by rw [hA8]; exact hC
        rw [← hyl, ← hA8, ← hc8] at hcut
        have HC8 := Aside0.mk (show y.length ≤ c8 from by rw [hyl, hc8]; exact Nat.sub_le_sub_right HC.out _)
        have HR8 := Aside0.mk hC
        have HB8 := Aside0.mk (show Bytes y from by rw [hy]; exact HBx.out.drop 1)
        rw [← hy] at HF2
        have HK8 := Aside0.mk (show y.length < gk from by have := HK.out; rw [hyl]; simp; omega)
        have c5' := eq_true c5
        have c6' := eq_true c6
        clear hC hyl hA8 hc8 hy hi08 hsz8 HK HC HR hdg HF hend HT c3 c5 c6 c7 q8 hn2
        go_wp2_with (go_at_call 103; refine (HA.out _).mono ?_; rintro e w1 ⟨rfl, ⟨nd, rfl⟩⟩)
        obtain ⟨k1, rfl⟩ : ∃ k1, gk = k1 + 1 := ⟨gk - 1, by have := HK8.out; omega⟩
        go_roundg k1
        case measure => omega
        case rel => exact ⟨A8, c8, y, n2, rfl, rfl, ⟨by have := HK8.out; omega⟩, HC8, HR8, HB8, HN2, HF2, by repeat (first | exact Drawn0.refl _ | apply Drawn0.step)⟩
     ·have c6b0 : decide (rd x 0 ≤ 55) = false := decide_eq_false c6
      have he := hend (.inr (.inr (by omega)))
      have HT1 := HT
      clear hend HT HF
      clear c3 c5 c6
      cases hall : x.all blankB with
      | true =>
       have hall' : ∀ y ∈ x, blankB y = true := by simpa using hall
       rw [hall, if_pos rfl] at he
       clear hall
       have HA := Aside0.mk hall'
       clear hall'
       obtain ⟨rfl, rfl⟩ := Prod.mk.inj he.out
       clear he
       go_wp2_with (go_at_call 96; refine (HT1.out _).mono ?_; rintro e w1 ⟨A3, c3_, n3, rfl, hn, hbw⟩; have hn3 := hn.2 HA.out; subst hn3; have HBW := Aside0.mk hbw; clear hn hbw)
       go_ret2
       exact ⟨rfl, (pw_below_drewN (Below.refl _ _) _ |>.trans (HBW.out.mono (Nat.le_refl _)))⟩
      | false =>
       have hall' : ¬ ∀ y ∈ x, blankB y = true := fun h_ => by rw [List.all_eq_true.2 h_] at hall; cases hall
       rw [hall, if_neg (by simp)] at he
       clear hall
       have HA := Aside0.mk hall'
       clear hall'
       obtain ⟨rfl, rfl⟩ := Prod.mk.inj he.out
       clear he
       go_wp2_with (go_at_call 96; refine (HT1.out _).mono ?_; rintro e w1 ⟨A3, c3_, n3, rfl, hn, hbw⟩; have hn3 : decide (0 < (n3 : Int)) = true := decide_eq_true (by have := mt hn.1 HA.out; omega); have hn4 : decide (0 < n3) = true := decide_eq_true (by have := mt hn.1 HA.out; omega); have HBW := Aside0.mk hbw; clear hn hbw)
       go_ret2
       exact ⟨rfl, (pw_below_drewN (Below.refl _ _) _ |>.trans (HBW.out.mono (Nat.le_refl _)))⟩
    ·have c5b0 : decide (48 ≤ rd x 0) = false := decide_eq_false c5
     have he := hend (.inr (.inl (by omega)))
     have HT1 := HT
     clear hend HT HF
     clear c3 c5
     cases hall : x.all blankB with
     | true =>
      have hall' : ∀ y ∈ x, blankB y = true := by simpa using hall
      rw [hall, if_pos rfl] at he
      clear hall
      have HA := Aside0.mk hall'
      clear hall'
      obtain ⟨rfl, rfl⟩ := Prod.mk.inj he.out
      clear he
      go_wp2_with (go_at_call 96; refine (HT1.out _).mono ?_; rintro e w1 ⟨A3, c3_, n3, rfl, hn, hbw⟩; have hn3 := hn.2 HA.out; subst hn3; have HBW := Aside0.mk hbw; clear hn hbw)
      go_ret2
      exact ⟨rfl, (pw_below_drewN (Below.refl _ _) _ |>.trans (HBW.out.mono (Nat.le_refl _)))⟩
     | false =>
      have hall' : ¬ ∀ y ∈ x, blankB y = true := fun h_ => by rw [List.all_eq_true.2 h_] at hall; cases hall
      rw [hall, if_neg (by simp)] at he
      clear hall
      have HA := Aside0.mk hall'
      clear hall'
      obtain ⟨rfl, rfl⟩ := Prod.mk.inj he.out
      clear he
      go_wp2_with (go_at_call 96; refine (HT1.out _).mono ?_; rintro e w1 ⟨A3, c3_, n3, rfl, hn, hbw⟩; have hn3 : decide (0 < (n3 : Int)) = true := decide_eq_true (by have := mt hn.1 HA.out; omega); have hn4 : decide (0 < n3) = true := decide_eq_true (by have := mt hn.1 HA.out; omega); have HBW := Aside0.mk hbw; clear hn hbw)
      go_ret2
      exact ⟨rfl, (pw_below_drewN (Below.refl _ _) _ |>.trans (HBW.out.mono (Nat.le_refl _)))⟩
   ·have c3b0 : decide (0 < (x.length : Int)) = false := decide_eq_false c3
    have c3b1 : decide (0 < x.length) = false := decide_eq_false (by omega)
    have he := hend (.inl (by omega))
    have HT1 := HT
    clear hend HT HF
    clear c3
    cases hall : x.all blankB with
    | true =>
     have hall' : ∀ y ∈ x, blankB y = true := by simpa using hall
     rw [hall, if_pos rfl] at he
     clear hall
     have HA := Aside0.mk hall'
     clear hall'
     obtain ⟨rfl, rfl⟩ := Prod.mk.inj he.out
     clear he
     go_wp2_with (go_at_call 96; refine (HT1.out _).mono ?_; rintro e w1 ⟨A3, c3_, n3, rfl, hn, hbw⟩; have hn3 := hn.2 HA.out; subst hn3; have HBW := Aside0.mk hbw; clear hn hbw)
     go_ret2
     exact ⟨rfl, (pw_below_drewN (Below.refl _ _) _ |>.trans (HBW.out.mono (Nat.le_refl _)))⟩
    | false =>
     have hall' : ¬ ∀ y ∈ x, blankB y = true := fun h_ => by rw [List.all_eq_true.2 h_] at hall; cases hall
     rw [hall, if_neg (by simp)] at he
     clear hall
     have HA := Aside0.mk hall'
     clear hall'
     obtain ⟨rfl, rfl⟩ := Prod.mk.inj he.out
     clear he
     go_wp2_with (go_at_call 96; refine (HT1.out _).mono ?_; rintro e w1 ⟨A3, c3_, n3, rfl, hn, hbw⟩; have hn3 : decide (0 < (n3 : Int)) = true := decide_eq_true (by have := mt hn.1 HA.out; omega); have hn4 : decide (0 < n3) = true := decide_eq_true (by have := mt hn.1 HA.out; omega); have HBW := Aside0.mk hbw; clear hn hbw)
     go_ret2
     exact ⟨rfl, (pw_below_drewN (Below.refl _ _) _ |>.trans (HBW.out.mono (Nat.le_refl _)))⟩
 ·rw [if_neg hb] at h
  cases h
end Go.Proofs.YtkfcfbggojmfkaaGreatDoor.P
end
