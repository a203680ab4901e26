/- bytes.Trim at a nought: how much it leaves, for every slice of bytes. No conditions. -/
import Derived.Test.YtlnbkmlidmgbaaaDoorPx0
import Derived.WalkMore
namespace Go.Proofs.YtlnbkmlidmgbaaaDoor.P
open Go.RowKit Go.Proofs.YtlnbkmlidmgbaaaDoorW.PrintWords Go.Proofs.YtlnbkmlidmgbaaaDoorW.PrintLast Go.Proofs.YtlnbkmlidmgbaaaDoorW.PrintMore
set_option linter.unusedVariables false
set_option linter.unusedSimpArgs false

theorem hinfo5 : (Tryd.prog.info? 5).map (fun i => (i.zero, i.size, i.bytes)) = some (some (.int .u8 0), 1, 1) := by kernel_rfl

set_option maxHeartbeats 1000000 in
theorem trimLeftByte_calls (A0 : Option Addr) (c0 : Nat) (l0 : List Int) (cc : Int) (w : World) (hr0 : Kd.C (Kd.int .u8) w A0 l0.length l0) (hc0 : l0.length ≤ c0) :
    Calls Tryd.prog 36 #[.slice A0 l0.length c0, .int .u8 cc] w fun e w' => ∃ (A' : Option Addr) (c' : Nat), e = .returned (.slice A' (l0.dropWhile (fun x => decide (x = cc))).length c') ∧ (l0.dropWhile (fun x => decide (x = cc))).length ≤ c' ∧
      Kd.C (Kd.int .u8) w A' (l0.dropWhile (fun x => decide (x = cc))).length (l0.dropWhile (fun x => decide (x = cc))) ∧ Drawn0 w w' := by
  obtain ⟨r, hr⟩ : ∃ r, r = l0.dropWhile (fun x => decide (x = cc)) := ⟨_, rfl⟩
  rw [← hr]
  have HR0 := Aside0.mk hr0
  have HC0 := Aside0.mk hc0
  have HD0 := Aside0.mk hr.symm
  clear hr0 hc0 hr
  go_enter Tryd.func36, Tryd.ntmps36
  go_wp2
  go_loopg [0] l0.length (fun kq v0 w' => ∃ (A1 : Option Addr) (c1 : Nat) (x : List Int), v0 = .slice A1 x.length c1 ∧ Aside0 (x.length ≤ kq) ∧ Aside0 (x.length ≤ c1) ∧ Aside0 (Kd.C (Kd.int .u8) w A1 x.length x) ∧ Aside0 (x.dropWhile (fun y => decide (y = cc)) = r) ∧ Drawn0 w w')
  case atStart => exact ⟨A0, c0, l0, rfl, ⟨Nat.le_refl _⟩, HC0, HR0, HD0, Drawn0.refl _⟩
  case round =>
    obtain ⟨A1, c1, x, rfl, HK, HC, HR, HD, ⟨m1, rfl⟩⟩ := hrel
    by_cases c3 : 0 < (x.length : Int)
    · have c3b0 : decide (0 < (x.length : Int)) = true := decide_eq_true c3
      have c3b1 : decide (0 < x.length) = true := decide_eq_true (by omega)
      have c3b2 : ((x.length : Int) == 0) = false := beq_eq_false_iff_ne.mpr (by omega)
      have c3b3 : ¬ (x = []) := fun h_ => by rw [h_] at c3; simp at c3
      obtain ⟨ad, e, hx⟩ := Kd.at_int HR.out 0 (by omega) c3
      subst e
      rw [show ((0 : Int)).toNat = 0 from rfl, Addr.add_zero'] at hx
      have hdw : x.dropWhile (fun y => decide (y = cc)) = if rd x 0 = cc then (x.drop 1).dropWhile (fun y => decide (y = cc)) else x := by
        cases x with
        | nil => simp at c3
        | cons y t => by_cases hy : y = cc <;> simp [rd, hy]
      by_cases c5 : rd x 0 = cc
      · rw [if_pos c5] at hdw
        have HD' := Aside0.mk (hdw.symm.trans HD.out)
        clear hdw HD
        have c5b0 : (rd x 0 == cc) = true := beq_iff_eq.mpr c5
        clear c5
        obtain ⟨i08, hi08, _, hsz8, _⟩ := info_parts hinfo5
        have hcut := cut_from (P := Tryd.prog) 22 5 .i64 Tryd.underlying22 hi08 1 hsz8 (some ad) x.length c1 1 (by omega) (by omega)
        have hC := Kd.C_drop (m := (1 : Int).toNat) (c := c1) HR.out (by have := Int.toNat_of_nonneg (show (0:Int) ≤ 1 by omega); omega) HC.out
        obtain ⟨A8, hA8⟩ : ∃ A2, A2 = (if c1 = (1 : Int).toNat then (some ad) else ((some ad) : Option Addr).map (·.add ((1 : Int).toNat * 1))) := ⟨_, rfl⟩
        obtain ⟨c8, hc8⟩ : ∃ c2, c2 = c1 - (1 : Int).toNat := ⟨_, rfl⟩
        obtain ⟨y, hy⟩ : ∃ y, y = x.drop 1 := ⟨_, rfl⟩
        have hyl : y.length = x.length - (1 : Int).toNat := by rw [hy, List.length_drop]; rfl
        rw [show x.drop (1 : Int).toNat = y from hy.symm] at hC
        replace hC : Kd.C (Kd.int .u8) w A8 y.length y := by rw [hA8]; exact hC
        rw [← hyl, ← hA8, ← hc8] at hcut
        have HC8 := Aside0.mk (show y.length ≤ c8 from by rw [hyl, hc8]; exact Nat.sub_le_sub_right HC.out _)
        have HR8 := Aside0.mk hC
        rw [← hy] at HD'
        have HK8 := Aside0.mk (show y.length < gk from by have := HK.out; rw [hyl]; simp; omega)
        clear hC hyl hA8 hc8 hy hi08 hsz8 HK HC HR
        have qi : (0 < x.length) = True := eq_true (by omega)
        have c3b := eq_true c3
        clear c3
        go_wp2
        obtain ⟨k1, rfl⟩ : ∃ k1, gk = k1 + 1 := ⟨gk - 1, by have := HK8.out; omega⟩
        go_roundg k1
        case measure => omega
        case rel => exact ⟨A8, c8, y, rfl, ⟨by have := HK8.out; omega⟩, HC8, HR8, HD', by repeat (first | exact Drawn0.refl _ | apply Drawn0.step)⟩
      · rw [if_neg c5] at hdw
        obtain rfl : x = r := hdw.symm.trans HD.out
        have c5b0 : (rd x 0 == cc) = false := beq_eq_false_iff_ne.mpr c5
        clear c5 hdw HD
        have qi : (0 < x.length) = True := eq_true (by omega)
        have c3b := eq_true c3
        clear c3
        go_wp2
        go_ret
        exact ⟨_, _, rfl, HC.out, HR.out, by repeat (first | exact Drawn0.refl _ | apply Drawn0.step)⟩
    · have hx0 : x = [] := List.eq_nil_of_length_eq_zero (by omega)
      subst hx0
      obtain rfl : r = [] := HD.out.symm
      clear c3
      go_wp2
      go_ret
      exact ⟨none, 0, rfl, Nat.le_refl _, Kd.C_nil _ _, by repeat (first | exact Drawn0.refl _ | apply Drawn0.step)⟩
/-- Without what it has at its end. -/
def dropEnd (tab : Int → Bool) (l : List Int) : List Int := (l.reverse.dropWhile tab).reverse
theorem dropEnd_take (tab : Int → Bool) (l : List Int) (n : Nat) (hn : n < l.length) (hp : tab (rd l n) = true) : dropEnd tab (l.take (n + 1)) = dropEnd tab (l.take n) := by
  have e : l.take (n + 1) = l.take n ++ [rd l n] := by
    rw [List.take_succ_eq_append_getElem hn]
    unfold rd
    simp [List.getD, hn]
  unfold dropEnd
  rw [e, List.reverse_append]
  simp [hp]
theorem dropEnd_stop (tab : Int → Bool) (l : List Int) (n : Nat) (hn : n < l.length) (hp : tab (rd l n) = false) : dropEnd tab (l.take (n + 1)) = l.take (n + 1) := by
  have e : l.take (n + 1) = l.take n ++ [rd l n] := by
    rw [List.take_succ_eq_append_getElem hn]
    unfold rd
    simp [List.getD, hn]
  unfold dropEnd
  rw [e, List.reverse_append]
  simp [hp]
set_option maxHeartbeats 1000000 in
theorem trimRightByte_calls (A0 : Option Addr) (c0 : Nat) (l0 : List Int) (cc : Int) (w : World) (hr0 : Kd.C (Kd.int .u8) w A0 l0.length l0) (hc0 : l0.length ≤ c0) :
    Calls Tryd.prog 37 #[.slice A0 l0.length c0, .int .u8 cc] w fun e w' => ∃ m : Nat, m ≤ l0.length ∧ l0.take m = dropEnd (fun x => decide (x = cc)) l0 ∧ e = .returned (.slice A0 m c0) ∧ Drawn0 w w' := by
  have HR := Aside0.mk hr0
  have HC := Aside0.mk hc0
  have hmax : l0.length ≤ 9223372036854775807 := hr0.2.1
  clear hr0 hc0
  go_enter Tryd.func37, Tryd.ntmps37
  go_wp2
  go_loopg [0] l0.length (fun kq v0 w' => ∃ n : Nat, v0 = .slice A0 n c0 ∧ Aside0 (n ≤ kq) ∧ Aside0 (n ≤ l0.length) ∧ Aside0 (dropEnd (fun x => decide (x = cc)) (l0.take n) = dropEnd (fun x => decide (x = cc)) l0) ∧ Drawn0 w w')
  case atStart => exact ⟨l0.length, rfl, ⟨Nat.le_refl _⟩, ⟨Nat.le_refl _⟩, ⟨by rw [List.take_length]⟩, Drawn0.refl _⟩
  case round =>
    obtain ⟨n, rfl, HK, HN, HD, ⟨m1, rfl⟩⟩ := hrel
    by_cases c3 : 0 < (n : Int)
    · obtain ⟨t, rfl⟩ : ∃ t, n = t + 1 := ⟨n - 1, by omega⟩
      have hN := HN.out
      have c3b0 : decide (0 < ((t + 1 : Nat) : Int)) = true := decide_eq_true c3
      obtain ⟨ad, e, hx⟩ := Kd.at_int HR.out (t : Int) (by omega) (by omega)
      subst e
      rw [Int.toNat_natCast] at hx
      have k1 : (t : Int) + 1 - 1 = t := by omega
      have k2 : (t : Int) < (t : Int) + 1 := by omega
      have qc : (t ≤ c0) = True := eq_true (by have := HC.out; omega)
      by_cases c5 : rd l0 t = cc
      · have HD' := Aside0.mk ((dropEnd_take (fun x => decide (x = cc)) l0 t (by omega) (decide_eq_true c5)).symm.trans HD.out)
        have c5b0 : (rd l0 t == cc) = true := beq_iff_eq.mpr c5
        clear c5 HD
        have HKt := Aside0.mk (show t < gk from by have := HK.out; omega)
        have HNt := Aside0.mk (show t ≤ l0.length from by omega)
        clear HK HN
        go_wp2
        obtain ⟨kk, rfl⟩ : ∃ k1, gk = k1 + 1 := ⟨gk - 1, by have := HKt.out; omega⟩
        go_roundg kk
        case measure => omega
        case rel => exact ⟨t, rfl, ⟨by have := HKt.out; omega⟩, HNt, HD', by repeat (first | exact Drawn0.refl _ | apply Drawn0.step)⟩
      · have hst := dropEnd_stop (fun x => decide (x = cc)) l0 t (by omega) (decide_eq_false c5)
        have HF := Aside0.mk (hst.symm.trans HD.out)
        have c5b0 : (rd l0 t == cc) = false := beq_eq_false_iff_ne.mpr c5
        clear c5 hst HD
        go_wp2
        go_ret
        exact ⟨t + 1, hN, HF.out, rfl, by repeat (first | exact Drawn0.refl _ | apply Drawn0.step)⟩
    · obtain rfl : n = 0 := by omega
      clear c3
      go_wp2
      go_ret
      exact ⟨0, Nat.zero_le _, by have := HD.out; simpa [dropEnd] using this, rfl, by repeat (first | exact Drawn0.refl _ | apply Drawn0.step)⟩

theorem dropWhile_nil_iff (tab : Int → Bool) : ∀ l : List Int, l.dropWhile tab = [] ↔ ∀ x ∈ l, tab x = true
  | [] => by simp
  | y :: t => by
    by_cases h : tab y = true
    · simp [h, dropWhile_nil_iff tab t]
    · simp [h]
theorem dropEnd_nil_iff (tab : Int → Bool) (l : List Int) : dropEnd tab l = [] ↔ ∀ x ∈ l, tab x = true := by
  unfold dropEnd
  rw [List.reverse_eq_nil_iff, dropWhile_nil_iff]
  constructor <;> intro h x hx
  · exact h x (List.mem_reverse.2 hx)
  · exact h x (List.mem_reverse.1 hx)
theorem dropEnd_last (tab : Int → Bool) (l : List Int) (h : dropEnd tab l ≠ []) : ∃ x ∈ dropEnd tab l, tab x = false := by
  unfold dropEnd at h ⊢
  rw [ne_eq, List.reverse_eq_nil_iff] at h
  obtain ⟨y, t, e⟩ := List.exists_cons_of_ne_nil h
  refine ⟨y, by rw [e]; simp, ?_⟩
  have := List.head?_dropWhile_not (p := tab) l.reverse
  rw [e] at this
  simpa using this
theorem trim_nil_iff (tab : Int → Bool) (l : List Int) : (dropEnd tab l).dropWhile tab = [] ↔ ∀ x ∈ l, tab x = true := by
  rw [dropWhile_nil_iff]
  constructor
  · intro h
    rw [← dropEnd_nil_iff]
    by_cases e : dropEnd tab l = []
    · exact e
    · obtain ⟨x, hx, hf⟩ := dropEnd_last tab l e
      rw [h x hx] at hf
      cases hf
  · intro h x hx
    rw [(dropEnd_nil_iff tab l).2 h] at hx
    cases hx

/-- What bytes.Trim leaves at a nought. -/
def trim0 (l : List Int) : List Int := (dropEnd (fun x => decide (x = 0)) l).dropWhile (fun x => decide (x = 0))
theorem trim0_nil (l : List Int) : trim0 l = [] ↔ ∀ x ∈ l, x = 0 := by
  unfold trim0
  rw [trim_nil_iff]
  simp
def bytes_Trim.f (l : List Int) (s : ByteArray) : Option (List Int) := match s.data.toList with
  | [0] => some (trim0 l)
  | _ => none
set_option maxHeartbeats 1000000 in
set_option maxRecDepth 100000 in
theorem bytes_Trim.calls (A0 : Option Addr) (c0 : Nat) (l0 : List Int) (s : ByteArray) (r : List Int) (w : World) (hr0 : Kd.C (Kd.int .u8) w A0 l0.length l0) (hc0 : l0.length ≤ c0) (h : bytes_Trim.f l0 s = some r) :
    Calls Tryd.prog 26 #[.slice A0 l0.length c0, .string s] w fun e w' => ∃ (A' : Option Addr) (c' : Nat), e = .returned (.slice A' r.length c') ∧ Drawn0 w w' := by
  unfold bytes_Trim.f at h
  split at h
  · rename_i hs
    obtain rfl := Option.some.inj h
    obtain rfl : s = ⟨#[0]⟩ := by
      cases s with
      | mk d =>
        cases d with
        | mk l =>
          have h2 : l = [0] := hs
          rw [h2]
    clear h hs
    by_cases h0 : l0.length = 0
    · have hn0 : ((l0.length : Int) == 0) = true := beq_iff_eq.2 (by omega)
      obtain rfl : l0 = [] := List.eq_nil_of_length_eq_zero h0
      clear hr0 hc0 h0
      go_enter Tryd.func26, Tryd.ntmps26
      go_wp2
      go_ret
      exact ⟨none, 0, rfl, Drawn0.refl _⟩
    have hn0 : ((l0.length : Int) == 0) = false := beq_eq_false_iff_ne.2 (by omega)
    have HR := Aside0.mk (fun nd => trimRightByte_calls A0 c0 l0 0 (w.drewN nd) (Kd.C_drewN hr0 nd) hc0)
    have HL : Aside0 (∀ (m nd : Nat), m ≤ l0.length → l0.take m = dropEnd (fun x => decide (x = 0)) l0 → Calls Tryd.prog 36 #[.slice A0 m c0, .int .u8 0] (w.drewN nd) fun e w' => ∃ (A' : Option Addr) (c' : Nat), e = .returned (.slice A' (trim0 l0).length c') ∧ ∃ n, w' = w.drewN n) := ⟨fun m nd hm he => by
      have hl : m = (l0.take m).length := by rw [List.length_take]; omega
      have hC := Kd.C_drewN (Kd.C_take hr0 hm) nd
      unfold trim0
      rw [← he]
      have ht := trimLeftByte_calls A0 c0 (l0.take m) 0 (w.drewN nd) hC (by omega)
      rw [← hl] at ht
      refine ht.mono ?_
      rintro e w' ⟨A', c', rfl, _, _, ⟨n, rfl⟩⟩
      exact ⟨A', c', rfl, nd + n, World.drewN_drewN ..⟩⟩
    clear hr0 hc0 h0
    go_enter Tryd.func26, Tryd.ntmps26
    have hc0 : (((⟨#[0]⟩ : ByteArray)[0]'(by decide)).toNat : Int) = 0 := rfl
    go_wp2
    go_region_with (first | (go_at_call 37; refine (HR.out _).mono ?_; rintro e w1 ⟨m, hm, he, rfl, ⟨nd, rfl⟩⟩; have hL := fun k_ => HL.out m k_ hm he; clear hm he) | (go_at_call 36; refine (hL _).mono ?_; rintro e w1 ⟨A', c', rfl, n, rfl⟩))
    all_goals go_wp2
    all_goals go_ret
    all_goals exact ⟨_, _, rfl, _, rfl⟩
  · cases h
end Go.Proofs.YtlnbkmlidmgbaaaDoor.P
