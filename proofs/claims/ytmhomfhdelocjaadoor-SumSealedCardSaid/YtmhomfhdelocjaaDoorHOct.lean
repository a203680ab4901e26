/- num.Octal: what it tells of every slice of bytes. No conditions. -/
import Derived.Test.YtmhomfhdelocjaaDoorHTrim
namespace Go.Proofs.YtmhomfhdelocjaaDoor.P
open Go.RowKit Go.Shelf Go.Lib Go.Proofs.YtmhomfhdelocjaaDoorW.PrintWords Go.Proofs.YtmhomfhdelocjaaDoorW.PrintLast Go.Proofs.YtmhomfhdelocjaaDoorW.PrintMore
set_option linter.unusedVariables false
set_option linter.unusedSimpArgs false

/-- The digits of a number, added up; none: too great. -/
def octLoop : List Int → Int → Option (Int × List Int)
  | [], n => some (n, [])
  | x :: t, n => if 48 ≤ x ∧ x ≤ 55 then (if n > 576460752303423488 ∨ 8 * n + (x - 48) > 4611686018427387904 then none else octLoop t (8 * n + (x - 48))) else some (n, x :: t)
/-- What is told of a number behind which something stands. -/
def octRes : Option (Int × List Int) → Int × Bool
  | none => (0, false)
  | some (n, r) => if r.all blankB = true then (n, true) else (0, false)
def octF (l : List Int) : Int × Bool := octRes (octLoop (l.dropWhile (fun x => decide (x = 32))) 0)
theorem octLoop_digit (x : List Int) (n : Int) (hx : 0 < x.length) (h1 : 48 ≤ rd x 0) (h2 : rd x 0 ≤ 55) : octLoop x n = if n > 576460752303423488 ∨ 8 * n + (rd x 0 - 48) > 4611686018427387904 then none else octLoop (x.drop 1) (8 * n + (rd x 0 - 48)) := by
  cases x with
  | nil => simp at hx
  | cons y t =>
    have e : rd (y :: t) 0 = y := rfl
    rw [e] at h1 h2 ⊢
    simp [octLoop, h1, h2]
theorem octLoop_other (x : List Int) (n : Int) (h : x.length = 0 ∨ rd x 0 < 48 ∨ 55 < rd x 0) : octLoop x n = some (n, x) := by
  cases x with
  | nil => rfl
  | cons y t =>
    have e : rd (y :: t) 0 = y := rfl
    rw [e] at h
    simp only [octLoop]
    rw [if_neg]
    simp at h
    omega
def bytesB (l : List Int) : Bool := l.all fun x => decide (0 ≤ x) && decide (x < 256)
theorem bytesB_iff (l : List Int) : bytesB l = true ↔ Bytes l := by simp [bytesB, Bytes]
def num_Octal.f (l0 : List Int) : Option (Int × Bool) := if bytesB l0 = true then some (octF l0) else none

theorem add3_great (n d : Int) (w : World) (h : 576460752303423488 < n) : Calls Tryd.prog 33 #[.int .i64 n, .int .u64 3, .int .i64 d] w fun e w' => e = .returned (.tuple #[.int .i64 0, .bool false]) ∧ Drawn0 w w' := by
  have c1 : decide (576460752303423488 < n) = true := decide_eq_true h
  go_enter Tryd.func33, Tryd.ntmps33
  go_wp2
  go_ret2
  exact ⟨rfl, by repeat (first | exact Drawn0.refl _ | apply Drawn0.step)⟩
theorem add3_more (n d : Int) (w : World) (h0 : 0 ≤ n) (h : n ≤ 576460752303423488) (hd : 0 ≤ d) (hd7 : d ≤ 7) : Calls Tryd.prog 33 #[.int .i64 n, .int .u64 3, .int .i64 d] w fun e w' => e = .returned (.tuple #[.int .i64 (8 * n + d), .bool (decide (8 * n + d ≤ 4611686018427387904))]) ∧ Drawn0 w w' := by
  have c1 : decide (576460752303423488 < n) = false := decide_eq_false (by omega)
  have c2 : decide (n < -576460752303423488 - 1) = false := decide_eq_false (by omega)
  have c2' : decide (n < -576460752303423489) = false := decide_eq_false (by omega)
  have c4 : decide (-4611686018427387904 ≤ n * 8 + d) = true := decide_eq_true (by omega)
  by_cases h5 : 8 * n + d ≤ 4611686018427387904
  · have c3 : decide (n * 8 + d ≤ 4611686018427387904) = true := decide_eq_true (by omega)
    go_enter Tryd.func33, Tryd.ntmps33
    go_wp2
    go_ret2
    exact ⟨by simp [h5]; omega, by repeat (first | exact Drawn0.refl _ | apply Drawn0.step)⟩
  · have c3 : decide (n * 8 + d ≤ 4611686018427387904) = false := decide_eq_false (by omega)
    go_enter Tryd.func33, Tryd.ntmps33
    go_wp2
    go_ret2
    exact ⟨by simp [h5]; omega, by repeat (first | exact Drawn0.refl _ | apply Drawn0.step)⟩

set_option maxHeartbeats 4000000 in
set_option maxRecDepth 100000 in
theorem num_Octal.calls (A0 : Option Addr) (c0 : Nat) (l0 : List Int) (r1 : Int) (r2 : Bool) (w : World) (hr0 : Kd.C (Kd.int .u8) w A0 l0.length l0) (hc0 : l0.length ≤ c0) (h : num_Octal.f l0 = some (r1, r2)) :
    Calls Tryd.prog 26 #[.slice A0 l0.length c0] w fun e w' => e = .returned (.tuple #[.int .i64 r1, .bool r2]) ∧ Below w.heap.size w w' := by
  unfold num_Octal.f at h
  by_cases hb : bytesB l0 = true
  · rw [if_pos hb] at h
    rw [bytesB_iff] at hb
    have HF := Aside0.mk (Option.some.inj h)
    have HB0 := Aside0.mk hb
    have HR0 := Aside0.mk hr0
    have HC0 := Aside0.mk hc0
    clear hr0 hc0 h hb
    go_enter Tryd.func26, Tryd.ntmps26
    have HT := Aside0.mk (trimLeft1_calls A0 c0 l0 w HR0.out HC0.out)
    have HBd : Bytes (l0.dropWhile (fun x => decide (x = 32))) := fun x hx => HB0.out x (List.dropWhile_sublist _ |>.mem hx)
    have HF2 : Aside0 (octRes (octLoop (l0.dropWhile (fun x => decide (x = 32))) 0) = (r1, r2)) := ⟨HF.out⟩
    obtain ⟨l1, hl1⟩ : ∃ l1, l1 = l0.dropWhile (fun x => decide (x = 32)) := ⟨_, rfl⟩
    rw [← hl1] at HT HBd HF2
    have HB1 := Aside0.mk HBd
    clear HBd hl1 HF HB0
    go_wp2_with (go_at_call 32; refine HT.out.mono ?_; rintro e w1 ⟨A1, c1, rfl, h1, h2, ⟨nd, rfl⟩⟩; have HC1 := Aside0.mk h1; have HR1 := Aside0.mk h2; clear h1 h2 HT)
    go_loopg [0, 4] l1.length (fun kq v0 v4 w' => ∃ (A2 : Option Addr) (c2 : Nat) (x : List Int) (n : Int), v0 = .slice A2 x.length c2 ∧ v4 = .int .i64 n ∧ Aside0 (x.length ≤ kq) ∧ Aside0 (x.length ≤ c2) ∧ Aside0 (Kd.C (Kd.int .u8) w A2 x.length x) ∧ Aside0 (Bytes x) ∧ Aside0 (0 ≤ n) ∧ Aside0 (octRes (octLoop x n) = (r1, r2)) ∧ Drawn0 w w')
    case atStart => exact ⟨A1, c1, l1, 0, rfl, rfl, ⟨Nat.le_refl _⟩, HC1, HR1, HB1, ⟨Int.le_refl _⟩, HF2, by repeat (first | exact Drawn0.refl _ | apply Drawn0.step)⟩
    case round =>
      clear HF2 HB1 HC1 HR1
      obtain ⟨A2, c2, x, n, rfl, rfl, HK, HC, HR, HBx, HN, HF, ⟨m1, rfl⟩⟩ := hrel
      have hend : ∀ (h : x.length = 0 ∨ rd x 0 < 48 ∨ 55 < rd x 0) , Aside0 ((if x.all blankB = true then (n, true) else (0, false)) = (r1, r2)) := fun h => ⟨by rw [← HF.out, octLoop_other x n h]; rfl⟩
      have HT := Aside0.mk (fun nd : Nat => trim2_calls A2 c2 x (w.drewN nd) (Kd.C_drewN HR.out nd) HC.out HBx.out)
      by_cases c3 : 0 < (x.length : Int)
      · have c3b0 : decide (0 < (x.length : Int)) = true := decide_eq_true c3
        have c3b1 : decide (0 < x.length) = true := decide_eq_true (by omega)
        obtain ⟨ad, e, hx⟩ := Kd.at_int HR.out 0 (by omega) c3
        subst e
        rw [show ((0 : Int)).toNat = 0 from rfl, Addr.add_zero'] at hx
        obtain ⟨hb0, hb1⟩ := HBx.out.rdb 0 (by omega) c3
        have qi : (0 < x.length) = True := eq_true (by omega)
        by_cases c5 : 48 ≤ rd x 0
        · have c5b0 : decide (48 ≤ rd x 0) = true := decide_eq_true c5
          by_cases c6 : rd x 0 ≤ 55
          · have c6b0 : decide (rd x 0 ≤ 55) = true := decide_eq_true c6
            have hdg := octLoop_digit x n (by omega) c5 c6
            have e1 : (rd x 0 - 48) % 256 = rd x 0 - 48 := by omega
            by_cases c7 : n > 576460752303423488
            · rw [if_pos (Or.inl c7)] at hdg
              have hfin : Aside0 (((0, false) : Int × Bool) = (r1, r2)) := ⟨by rw [← HF.out, hdg]; rfl⟩
              have HA := Aside0.mk (fun nd : Nat => add3_great n (rd x 0 - 48) (w.drewN nd) (by omega))
              clear hdg HF hend HT c3 c5 c6 c7
              obtain ⟨rfl, rfl⟩ := Prod.mk.inj hfin.out
              clear hfin
              go_wp2_with (go_at_call 33; refine (HA.out _).mono ?_; rintro e w1 ⟨rfl, ⟨nd, rfl⟩⟩)
              go_ret2
              exact ⟨rfl, by repeat (first | exact Below.refl _ _ | apply pw_below_drewN)⟩
            · have HA := Aside0.mk (fun nd : Nat => add3_more n (rd x 0 - 48) (w.drewN nd) HN.out (by omega) (by omega) (by omega))
              by_cases q8 : 8 * n + (rd x 0 - 48) > 4611686018427387904
              · rw [if_pos (Or.inr q8)] at hdg
                have hfin : Aside0 (((0, false) : Int × Bool) = (r1, r2)) := ⟨by rw [← HF.out, hdg]; rfl⟩
                rw [show decide (8 * n + (rd x 0 - 48) ≤ 4611686018427387904) = false from decide_eq_false (by omega)] at HA
                clear hdg HF hend HT c3 c5 c6 c7 q8
                obtain ⟨rfl, rfl⟩ := Prod.mk.inj hfin.out
                clear hfin
                go_wp2_with (go_at_call 33; refine (HA.out _).mono ?_; rintro e w1 ⟨rfl, ⟨nd, rfl⟩⟩)
                go_ret2
                exact ⟨rfl, by repeat (first | exact Below.refl _ _ | apply pw_below_drewN)⟩
              · rw [if_neg (by omega)] at hdg
                have HF2 : Aside0 (octRes (octLoop (x.drop 1) (8 * n + (rd x 0 - 48))) = (r1, r2)) := ⟨by rw [← hdg, HF.out]⟩
                rw [show decide (8 * n + (rd x 0 - 48) ≤ 4611686018427387904) = true from decide_eq_true (by omega)] at HA
                have HN2 : Aside0 (0 ≤ 8 * n + (rd x 0 - 48)) := ⟨by have := HN.out; omega⟩
                obtain ⟨n2, hn2⟩ : ∃ n2, n2 = 8 * n + (rd x 0 - 48) := ⟨_, rfl⟩
                rw [← hn2] at HF2 HA HN2
                obtain ⟨i08, hi08, _, hsz8, _⟩ := info_parts hinfo5
                have hcut := cut_from (P := Tryd.prog) 22 5 .i64 Tryd.underlying22 hi08 1 hsz8 (some ad) x.length c2 1 (by omega) (by omega)
                have hC := Kd.C_drop (m := (1 : Int).toNat) (c := c2) HR.out (by have := Int.toNat_of_nonneg (show (0:Int) ≤ 1 by omega); omega) HC.out
                obtain ⟨A8, hA8⟩ : ∃ A2, A2 = (if c2 = (1 : Int).toNat then (some ad) else ((some ad) : Option Addr).map (·.add ((1 : Int).toNat * 1))) := ⟨_, rfl⟩
                obtain ⟨c8, hc8⟩ : ∃ c3, c3 = c2 - (1 : Int).toNat := ⟨_, rfl⟩
                obtain ⟨y, hy⟩ : ∃ y, y = x.drop 1 := ⟨_, rfl⟩
                have hyl : y.length = x.length - (1 : Int).toNat := by rw [hy, List.length_drop]; rfl
                rw [show x.drop (1 : Int).toNat = y from hy.symm] at hC
                replace hC : Kd.C (Kd.int .u8) w A8 y.length y := by rw [hA8]; exact hC
                rw [← hyl, ← hA8, ← hc8] at hcut
                have HC8 := Aside0.mk (show y.length ≤ c8 from by rw [hyl, hc8]; exact Nat.sub_le_sub_right HC.out _)
                have HR8 := Aside0.mk hC
                have HB8 := Aside0.mk (show Bytes y from by rw [hy]; exact HBx.out.drop 1)
                rw [← hy] at HF2
                have HK8 := Aside0.mk (show y.length < gk from by have := HK.out; rw [hyl]; simp; omega)
                have c5' := eq_true c5
                have c6' := eq_true c6
                clear hC hyl hA8 hc8 hy hi08 hsz8 HK HC HR hdg HF hend HT c3 c5 c6 c7 q8 hn2
                go_wp2_with (go_at_call 33; refine (HA.out _).mono ?_; rintro e w1 ⟨rfl, ⟨nd, rfl⟩⟩)
                obtain ⟨k1, rfl⟩ : ∃ k1, gk = k1 + 1 := ⟨gk - 1, by have := HK8.out; omega⟩
                go_roundg k1
                case measure => omega
                case rel => exact ⟨A8, c8, y, n2, rfl, rfl, ⟨by have := HK8.out; omega⟩, HC8, HR8, HB8, HN2, HF2, by repeat (first | exact Drawn0.refl _ | apply Drawn0.step)⟩
          · have c6b0 : decide (rd x 0 ≤ 55) = false := decide_eq_false c6
            have he := hend (.inr (.inr (by omega)))
            have HT1 := HT
            clear hend HT HF
            clear c3 c5 c6
            cases hall : x.all blankB with
            | true =>
              have hall' : ∀ y ∈ x, blankB y = true := by simpa using hall
              rw [hall, if_pos rfl] at he
              clear hall
              have HA := Aside0.mk hall'
              clear hall'
              obtain ⟨rfl, rfl⟩ := Prod.mk.inj he.out
              clear he
              go_wp2_with (go_at_call 34; refine (HT1.out _).mono ?_; rintro e w1 ⟨A3, c3_, n3, rfl, hn, hbw⟩; have hn3 := hn.2 HA.out; subst hn3; have HBW := Aside0.mk hbw; clear hn hbw)
              go_ret2
              exact ⟨rfl, (pw_below_drewN (Below.refl _ _) _ |>.trans (HBW.out.mono (Nat.le_refl _)))⟩
            | false =>
              have hall' : ¬ ∀ y ∈ x, blankB y = true := fun h_ => by rw [List.all_eq_true.2 h_] at hall; cases hall
              rw [hall, if_neg (by simp)] at he
              clear hall
              have HA := Aside0.mk hall'
              clear hall'
              obtain ⟨rfl, rfl⟩ := Prod.mk.inj he.out
              clear he
              go_wp2_with (go_at_call 34; refine (HT1.out _).mono ?_; rintro e w1 ⟨A3, c3_, n3, rfl, hn, hbw⟩; have hn3 : decide (0 < (n3 : Int)) = true := decide_eq_true (by have := mt hn.1 HA.out; omega); have hn4 : decide (0 < n3) = true := decide_eq_true (by have := mt hn.1 HA.out; omega); have HBW := Aside0.mk hbw; clear hn hbw)
              go_ret2
              exact ⟨rfl, (pw_below_drewN (Below.refl _ _) _ |>.trans (HBW.out.mono (Nat.le_refl _)))⟩
        · have c5b0 : decide (48 ≤ rd x 0) = false := decide_eq_false c5
          have he := hend (.inr (.inl (by omega)))
          have HT1 := HT
          clear hend HT HF
          clear c3 c5
          cases hall : x.all blankB with
          | true =>
            have hall' : ∀ y ∈ x, blankB y = true := by simpa using hall
            rw [hall, if_pos rfl] at he
            clear hall
            have HA := Aside0.mk hall'
            clear hall'
            obtain ⟨rfl, rfl⟩ := Prod.mk.inj he.out
            clear he
            go_wp2_with (go_at_call 34; refine (HT1.out _).mono ?_; rintro e w1 ⟨A3, c3_, n3, rfl, hn, hbw⟩; have hn3 := hn.2 HA.out; subst hn3; have HBW := Aside0.mk hbw; clear hn hbw)
            go_ret2
            exact ⟨rfl, (pw_below_drewN (Below.refl _ _) _ |>.trans (HBW.out.mono (Nat.le_refl _)))⟩
          | false =>
            have hall' : ¬ ∀ y ∈ x, blankB y = true := fun h_ => by rw [List.all_eq_true.2 h_] at hall; cases hall
            rw [hall, if_neg (by simp)] at he
            clear hall
            have HA := Aside0.mk hall'
            clear hall'
            obtain ⟨rfl, rfl⟩ := Prod.mk.inj he.out
            clear he
            go_wp2_with (go_at_call 34; refine (HT1.out _).mono ?_; rintro e w1 ⟨A3, c3_, n3, rfl, hn, hbw⟩; have hn3 : decide (0 < (n3 : Int)) = true := decide_eq_true (by have := mt hn.1 HA.out; omega); have hn4 : decide (0 < n3) = true := decide_eq_true (by have := mt hn.1 HA.out; omega); have HBW := Aside0.mk hbw; clear hn hbw)
            go_ret2
            exact ⟨rfl, (pw_below_drewN (Below.refl _ _) _ |>.trans (HBW.out.mono (Nat.le_refl _)))⟩
      · have c3b0 : decide (0 < (x.length : Int)) = false := decide_eq_false c3
        have c3b1 : decide (0 < x.length) = false := decide_eq_false (by omega)
        have he := hend (.inl (by omega))
        have HT1 := HT
        clear hend HT HF
        clear c3
        cases hall : x.all blankB with
        | true =>
          have hall' : ∀ y ∈ x, blankB y = true := by simpa using hall
          rw [hall, if_pos rfl] at he
          clear hall
          have HA := Aside0.mk hall'
          clear hall'
          obtain ⟨rfl, rfl⟩ := Prod.mk.inj he.out
          clear he
          go_wp2_with (go_at_call 34; refine (HT1.out _).mono ?_; rintro e w1 ⟨A3, c3_, n3, rfl, hn, hbw⟩; have hn3 := hn.2 HA.out; subst hn3; have HBW := Aside0.mk hbw; clear hn hbw)
          go_ret2
          exact ⟨rfl, (pw_below_drewN (Below.refl _ _) _ |>.trans (HBW.out.mono (Nat.le_refl _)))⟩
        | false =>
          have hall' : ¬ ∀ y ∈ x, blankB y = true := fun h_ => by rw [List.all_eq_true.2 h_] at hall; cases hall
          rw [hall, if_neg (by simp)] at he
          clear hall
          have HA := Aside0.mk hall'
          clear hall'
          obtain ⟨rfl, rfl⟩ := Prod.mk.inj he.out
          clear he
          go_wp2_with (go_at_call 34; refine (HT1.out _).mono ?_; rintro e w1 ⟨A3, c3_, n3, rfl, hn, hbw⟩; have hn3 : decide (0 < (n3 : Int)) = true := decide_eq_true (by have := mt hn.1 HA.out; omega); have hn4 : decide (0 < n3) = true := decide_eq_true (by have := mt hn.1 HA.out; omega); have HBW := Aside0.mk hbw; clear hn hbw)
          go_ret2
          exact ⟨rfl, (pw_below_drewN (Below.refl _ _) _ |>.trans (HBW.out.mono (Nat.le_refl _)))⟩
  · rw [if_neg hb] at h
    cases h
end Go.Proofs.YtmhomfhdelocjaaDoor.P
