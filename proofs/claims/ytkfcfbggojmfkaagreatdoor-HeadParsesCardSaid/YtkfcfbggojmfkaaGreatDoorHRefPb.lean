/- mudlarkref08.kind, .fields: what they come to. No conditions. Functions of the reference, walked (the kit's print). No conditions. The reference's cut of a text. No conditions. mudlarkref08.Way: what it comes to. No conditions. mudlarkref08.holes, .Way, .Parse: what they come to. No conditions. mudlarkref08.Parse: what it comes to. No conditions. ref08.Same of a header with itself. HeadParses walked: it is true for all inputs. Its condition: head.magic holds what its text lays. -/
import Derived.Test.YtkfcfbggojmfkaaGreatDoorHRefPp
import Derived.Test.YtkfcfbggojmfkaaGreatDoorHBent
import Derived.Test.YtkfcfbggojmfkaaGreatDoorPx0
import Derived.Test.YtkfcfbggojmfkaaGreatDoorHRefN
import Derived.Test.YtkfcfbggojmfkaaGreatDoorHHeader
section
namespace Go.Proofs.YtkfcfbggojmfkaaGreatDoor.P
open Go Go.RowKit Go.Proofs.YtkfcfbggojmfkaaGreatDoorW.PrintWords Go.Proofs.YtkfcfbggojmfkaaGreatDoorW.PrintLast Go.Proofs.YtkfcfbggojmfkaaGreatDoorW.PrintMore
set_option linter.unusedVariables false
set_option linter.unusedSimpArgs false

set_option maxRecDepth 100000 in
set_option maxHeartbeats 4000000 in
theorem ref_kind (A : Option Addr) (c : Nat) (l : List Int) (w : World) (hr : Kd.C (Kd.int .u8) w A l.length l) (hl : l.length = 512) :
  Calls Tryz.prog 34 #[.slice A 512 c] w fun e w' => e = .returned (.int .u8 (kindF l)) ∧ Below w.heap.size w w' := by
 obtain ⟨ad, eA, hx⟩ := Kd.at_int hr 156 (by omega) (by omega)
 subst eA
 have hx : w.cell? ⟨ad.block, ad.off + 156, none⟩ = some (.int .u8 (rd l 156)) := by simpa [Addr.add] using hx
 unfold kindF
 generalize rd l 156 = x at hx ⊢
 clear hr hl
 by_cases h0 : x = 0
 ·have e0 : (x == 0) = true := beq_iff_eq.2 h0
  rw [if_pos h0]
  clear h0
  go_enter Tryz.func34, Tryz.ntmps34
  go_wp2
  go_ret
  exact ⟨rfl, Below.refl _ _⟩
 ·have e0 : (x == 0) = false := beq_eq_false_iff_ne.2 h0
  rw [if_neg h0]
  clear h0
  go_enter Tryz.func34, Tryz.ntmps34
  go_wp2
  go_ret
  exact ⟨rfl, Below.refl _ _⟩
def valsL (l : List Int) (way : Int) : List Int := [valF l 100 8, valF l 108 8, valF l 116 8, valF l 124 12, valF l 136 12, if way = 0 then 0 else valF l 329 8, if way = 0 then 0 else valF l 337 8]
def okR (l : List Int) (i a w : Nat) (up : Int) : Prop := (parseF (fld l a w)).2 = true ∧ (0 ≤ valF l a w ∨ i = 4) ∧ valF l a w ≤ up
instance (l : List Int) (i a w : Nat) (up : Int) : Decidable (okR l i a w up) := by unfold okR; infer_instance
def fieldsP (l : List Int) (way : Int) : List (Nat × Nat × Nat × Int) → List Int → Option (List Int)
 | [], o => some o
 | (i, a, w, up) :: r, o => if 4 < i ∧ way = 0 then fieldsP l way r (o ++ [0]) else if okR l i a w up then fieldsP l way r (o ++ [valF l a w]) else none
def T7 : List (Nat × Nat × Nat × Int) := [(0, 100, 8, 4611686018427387904), (1, 108, 8, 4611686018427387904), (2, 116, 8, 4611686018427387904), (3, 124, 12, 1099511627776), (4, 136, 12, 4611686018427387904), (5, 329, 8, 4611686018427387904), (6, 337, 8, 4611686018427387904)]
theorem octLoop_low : ∀ (x : List Int) (n : Int), 0 ≤ n → ∀ m r, octLoop x n = some (m, r) → 0 ≤ m
 | [], n, h0, m, r, h => by
  unfold octLoop at h
  injection h with h
  injection h with h1 h2
  omega
 | c :: x, n, h0, m, r, h => by
  unfold octLoop at h
  split at h
  ·rename_i hc
   split at h
   ·cases h
   ·exact octLoop_low x _ (by omega) m r h
  ·injection h with h
   injection h with h1 h2
   omega
theorem parse_low (x : List Int) (h : (parseF x).2 = true) : -4611686018427387904 ≤ (parseF x).1 := by
 unfold parseF at h ⊢
 by_cases h1 : (x.length : Int) > 0 ∧ rd x 0 ≥ 128
 ·rw [if_pos h1] at h ⊢
  exact (binF_range x h).1
 ·rw [if_neg h1] at h ⊢
  unfold octF at h ⊢
  cases hq : octLoop (x.dropWhile (fun x => decide (x = 32))) 0 with
  | none => rw [hq] at h; cases h
  | some p =>
   obtain ⟨m, r⟩ := p
   have := octLoop_low _ 0 (Int.le_refl 0) m r hq
   unfold octRes
   show (-4611686018427387904 : Int) ≤ (if r.all blankB = true then (m, true) else (0, false)).1
   split
   ·show (-4611686018427387904 : Int) ≤ m; omega
   ·show (-4611686018427387904 : Int) ≤ 0; omega
theorem okR_okF (l : List Int) (i a w : Nat) (up : Int) (hi : ¬ i = 4) : okR l i a w up ↔ okF l a w 0 up = true := by
 unfold okR okF
 simp only [Bool.and_eq_true, decide_eq_true_eq]
 constructor
 ·rintro ⟨h1, h2, h3⟩
  exact ⟨h1, by rcases h2 with h | h; exact h; exact absurd h hi, h3⟩
 ·rintro ⟨h1, h2, h3⟩
  exact ⟨h1, .inl h2, h3⟩
theorem okR_okF4 (l : List Int) (a w : Nat) (up : Int) : okR l 4 a w up ↔ okF l a w (-4611686018427387904) up = true := by
 unfold okR okF
 simp only [Bool.and_eq_true, decide_eq_true_eq]
 constructor
 ·rintro ⟨h1, h2, h3⟩
  exact ⟨h1, parse_low _ h1, h3⟩
 ·rintro ⟨h1, h2, h3⟩
  exact ⟨h1, Or.inr trivial, h3⟩
theorem fieldsP_eq (l : List Int) (way : Int) : fieldsP l way T7 [] = if numsB l way = true then some (valsL l way) else none := by
 unfold T7 numsB
 by_cases h0 : okF l 100 8 0 4611686018427387904 = true
 ·by_cases h1 : okF l 108 8 0 4611686018427387904 = true
  ·by_cases h2 : okF l 116 8 0 4611686018427387904 = true
   ·by_cases h3 : okF l 124 12 0 1099511627776 = true
    ·by_cases h4 : okF l 136 12 (-4611686018427387904) 4611686018427387904 = true
     ·rw [fieldsP, if_neg (by omega), if_pos ((okR_okF l 0 _ _ _ (by decide)).2 h0), fieldsP, if_neg (by omega), if_pos ((okR_okF l 1 _ _ _ (by decide)).2 h1), fieldsP, if_neg (by omega), if_pos ((okR_okF l 2 _ _ _ (by decide)).2 h2), fieldsP, if_neg (by omega), if_pos ((okR_okF l 3 _ _ _ (by decide)).2 h3), fieldsP, if_neg (by omega), if_pos ((okR_okF4 l _ _ _).2 h4), h0, h1, h2, h3, h4]
      by_cases hw : way = 0
      ·rw [fieldsP, if_pos ⟨by omega, hw⟩, fieldsP, if_pos ⟨by omega, hw⟩, fieldsP]
       simp [valsL, hw]
      ·rw [fieldsP, if_neg (fun h => hw h.2)]
       by_cases h5 : okF l 329 8 0 4611686018427387904 = true
       ·rw [if_pos ((okR_okF l 5 _ _ _ (by decide)).2 h5), fieldsP, if_neg (fun h => hw h.2)]
        by_cases h6 : okF l 337 8 0 4611686018427387904 = true
        ·rw [if_pos ((okR_okF l 6 _ _ _ (by decide)).2 h6), fieldsP, h5, h6]
         simp [valsL, hw]
        ·rw [if_neg (fun h => h6 ((okR_okF l 6 _ _ _ (by decide)).1 h))]
         simp [hw, h5, h6]
       ·rw [if_neg (fun h => h5 ((okR_okF l 5 _ _ _ (by decide)).1 h))]
        simp [hw, h5]
     ·rw [fieldsP, if_neg (by omega), if_pos ((okR_okF l 0 _ _ _ (by decide)).2 h0), fieldsP, if_neg (by omega), if_pos ((okR_okF l 1 _ _ _ (by decide)).2 h1), fieldsP, if_neg (by omega), if_pos ((okR_okF l 2 _ _ _ (by decide)).2 h2), fieldsP, if_neg (by omega), if_pos ((okR_okF l 3 _ _ _ (by decide)).2 h3), fieldsP, if_neg (by omega), if_neg (fun h => h4 ((okR_okF4 l _ _ _).1 h))]
      simp [h4]
    ·rw [fieldsP, if_neg (by omega), if_pos ((okR_okF l 0 _ _ _ (by decide)).2 h0), fieldsP, if_neg (by omega), if_pos ((okR_okF l 1 _ _ _ (by decide)).2 h1), fieldsP, if_neg (by omega), if_pos ((okR_okF l 2 _ _ _ (by decide)).2 h2), fieldsP, if_neg (by omega), if_neg (fun h => h3 ((okR_okF l 3 _ _ _ (by decide)).1 h))]
     simp [h3]
   ·rw [fieldsP, if_neg (by omega), if_pos ((okR_okF l 0 _ _ _ (by decide)).2 h0), fieldsP, if_neg (by omega), if_pos ((okR_okF l 1 _ _ _ (by decide)).2 h1), fieldsP, if_neg (by omega), if_neg (fun h => h2 ((okR_okF l 2 _ _ _ (by decide)).1 h))]
    simp [h2]
  ·rw [fieldsP, if_neg (by omega), if_pos ((okR_okF l 0 _ _ _ (by decide)).2 h0), fieldsP, if_neg (by omega), if_neg (fun h => h1 ((okR_okF l 1 _ _ _ (by decide)).1 h))]
   simp [h1]
 ·rw [fieldsP, if_neg (by omega), if_neg (fun h => h0 ((okR_okF l 0 _ _ _ (by decide)).1 h))]
  simp [h0]
def atsF : Array Value := #[.int .i64 100, .int .i64 108, .int .i64 116, .int .i64 124, .int .i64 136, .int .i64 329, .int .i64 337]
def wdsF : Array Value := #[.int .i64 8, .int .i64 8, .int .i64 8, .int .i64 12, .int .i64 12, .int .i64 8, .int .i64 8]
def upsF : Array Value := #[.int .i64 4611686018427387904, .int .i64 4611686018427387904, .int .i64 4611686018427387904, .int .i64 1099511627776, .int .i64 4611686018427387904, .int .i64 4611686018427387904, .int .i64 4611686018427387904]
theorem t7_at (i : Nat) (hi : i < 7) : ∃ (a wd : Nat) (up : Int), T7[i]? = some (i, a, wd, up) ∧ atsF[i]? = some (.int .i64 (a : Int)) ∧ wdsF[i]? = some (.int .i64 (wd : Int)) ∧ upsF[i]? = some (.int .i64 up) ∧ a + wd ≤ 512 := by
 match i, hi with
 | 0, _ => exact ⟨100, 8, _, rfl, rfl, rfl, rfl, by decide⟩
 | 1, _ => exact ⟨108, 8, _, rfl, rfl, rfl, rfl, by decide⟩
 | 2, _ => exact ⟨116, 8, _, rfl, rfl, rfl, rfl, by decide⟩
 | 3, _ => exact ⟨124, 12, _, rfl, rfl, rfl, rfl, by decide⟩
 | 4, _ => exact ⟨136, 12, _, rfl, rfl, rfl, rfl, by decide⟩
 | 5, _ => exact ⟨329, 8, _, rfl, rfl, rfl, rfl, by decide⟩
 | 6, _ => exact ⟨337, 8, _, rfl, rfl, rfl, rfl, by decide⟩
structure FW (w : World) (ga gw gu : Nat) (v : Value) (o : List Int) (W : World) : Prop where
 a : W.heap[ga]? = some (.cells atsF 3 (0, 0))
 wd : W.heap[gw]? = some (.cells wdsF 3 (0, 0))
 u : W.heap[gu]? = some (.cells upsF 3 (0, 0))
 r : Kd.R (Kd.int .i64) 3 W w.heap.size (fun k => k ≠ ga ∧ k ≠ gw ∧ k ≠ gu) v o
 b : Below w.heap.size w W
theorem FW.up {w W W' : World} {ga gw gu : Nat} {v : Value} {o : List Int} (p : FW w ga gw gu v o W) (hb : Below W.heap.size W W') : FW w ga gw gu v o W' := ⟨blk_below p.a hb, blk_below p.wd hb, blk_below p.u hb, Kd.R_below p.r hb, below_step p.b hb⟩
theorem FW.drew {w W : World} {ga gw gu : Nat} {v : Value} {o : List Int} (p : FW w ga gw gu v o W) : FW w ga gw gu v o W.drew := ⟨p.a, p.wd, p.u, Kd.R_drew p.r, below_drew p.b⟩
theorem FW.app {w W w1 : World} {ga gw gu : Nat} {v v1 : Value} {o ys : List Int} (p : FW w ga gw gu v o W) (hr : Kd.R (Kd.int .i64) 3 w1 w.heap.size (fun k => k ≠ ga ∧ k ≠ gw ∧ k ≠ gu) v1 (o ++ ys)) (hb : Below w.heap.size w w1) (hg : W.grownBy w1 v.ownBlock) : FW w ga gw gu v1 (o ++ ys) w1 :=
 ⟨blk_grown p.a hg (fun e => (p.r.1 ga e.symm).1 rfl), blk_grown p.wd hg (fun e => (p.r.1 gw e.symm).2.1 rfl), blk_grown p.u hg (fun e => (p.r.1 gu e.symm).2.2 rfl), hr, hb⟩
theorem FW.fresh {w W : World} {ga gw gu : Nat} {v : Value} {o : List Int} (p : FW w ga gw gu v o W) : ∀ k, W.heap.size ≤ k → k ≠ ga ∧ k ≠ gw ∧ k ≠ gu := fun k hk => by
 have := blk_lt p.a
 have := blk_lt p.wd
 have := blk_lt p.u
 omega
theorem to_below {w w' : World} (h : Drawn0 w w') : Below w.heap.size w w' := drawn_below h
set_option maxRecDepth 100000 in
set_option maxHeartbeats 8000000 in
theorem ref_fields (A : Option Addr) (c : Nat) (l : List Int) (way : Int) (w : World) (hr : Kd.C (Kd.int .u8) w A l.length l) (hl : l.length = 512) (hc : 512 ≤ c) (hby : Bytes l) :
  Calls Tryz.prog 35 #[.slice A 512 c, .int .i64 way] w fun e w' => ∃ (v : Value) (ok : Bool), e = .returned (.tuple #[v, .bool ok]) ∧ Aside0 (ok = numsB l way ∧ (ok = true → Kd.R (Kd.int .i64) 3 w' w.heap.size (fun _ => True) v (valsL l way))) ∧ Below w.heap.size w w' := by
 have HC := Aside0.mk hr
 have HL := Aside0.mk hl
 have HCC := Aside0.mk hc
 have HBY := Aside0.mk hby
 clear hr hl hc hby
 go_enter Tryz.func35, Tryz.ntmps35
 go_upto_region 4 with (fail)
 have ha3 := alloc3 w atsF wdsF upsF 3 3 3
 change Code.wp _ _ _ _ (((w.alloc (.cells atsF 3)).alloc (.cells wdsF 3)).alloc (.cells upsF 3))
 generalize ((w.alloc (.cells atsF 3)).alloc (.cells wdsF 3)).alloc (.cells upsF 3) = w1 at ha3 ⊢
 generalize w.heap.size + 1 + 1 = gu at ha3 ⊢
 generalize w.heap.size + 1 = gw at ha3 ⊢
 obtain ⟨a1, a2, a3, a4⟩ := ha3
 obtain ⟨ga, hga⟩ : ∃ n, n = w.heap.size := ⟨_, rfl⟩
 rw [← hga] at a1 ⊢
 have HF : Aside0 (FW w ga gw gu (.slice none 0 0) [] w1) := ⟨a1, a2, a3, Kd.R_nil _ _ _ _ _, a4⟩
 obtain ⟨R, hR⟩ : ∃ R, R = fieldsP l way T7 [] := ⟨_, rfl⟩
 have HR := Aside0.mk hR
 clear a1 a2 a3 a4 hga hR
 go_wp2
 go_loopg [10, 9] 7 (fun kq v10 v9 wx => ∃ (i : Nat) (o : List Int), v10 = .int .i64 (i : Int) ∧ Aside0 (i + kq = 7) ∧ Aside0 (o.length = i) ∧ Aside0 (fieldsP l way (T7.drop i) o = R) ∧ Aside0 (FW w ga gw gu v9 o wx))
 case atStart => exact ⟨0, [], rfl, ⟨Nat.zero_add _⟩, ⟨rfl⟩, ⟨HR.out.symm⟩, HF⟩
 case round =>
  obtain ⟨i, o, rfl, HI, HOL, HG, H1⟩ := hrel
  clear HF
  by_cases hlt : i < 7
  ·obtain ⟨a, wd, up, hT, h1, h2, h3, hfit⟩ := t7_at i hlt
   have f1 := (blk_cell H1.out.a i).trans h1
   have f2 := (blk_cell H1.out.wd i).trans h2
   have f3 := (blk_cell H1.out.u i).trans h3
   have p0 : (0 ≤ (i : Int)) = True := eq_true (by omega)
   have q0 : ((i : Int) < 7) = True := eq_true (by omega)
   have q1 : (i < 7) = True := eq_true hlt
   have hmx : (i : Int) ≤ 6 := by omega
   have hltT : i < T7.length := hlt
   have HG2 : Aside0 (fieldsP l way ((i, a, wd, up) :: T7.drop (i + 1)) o = R) := ⟨by rw [← HG.out, List.drop_eq_getElem_cons hltT, (List.getElem?_eq_some_iff.1 hT).2]⟩
   have HLT := Aside0.mk hlt
   have HFIT := Aside0.mk hfit
   have HU := Aside0.mk h3
   clear hT h1 h2 h3 hltT HG hlt hfit
   by_cases h4w : 4 < i ∧ way = 0
   ·have d4 : decide (4 < (i : Int)) = true := decide_eq_true (by omega)
    have e0 : (way == 0) = true := beq_iff_eq.2 h4w.2
    have HG3 : Aside0 (fieldsP l way (T7.drop (i + 1)) (o ++ [0]) = R) := ⟨by rw [← HG2.out]; conv => rhs; rw [fieldsP, if_pos h4w]⟩
    clear h4w
    go_wp2_with ((with_reducible refine gate_builtin (b := .append) (xs := #[.tmp 26, .tmp 27]) rfl ?_); at_builtin; have H2q := Aside0.mk (H1.out.up (below_alloc (Below.refl _ _) (.cells ([0].map (Value.int .i64)).toArray 3))); refine Kd.R_append_row (Value.int .i64) 0 (h1 := fun _ => rfl) (w0 := w) w.heap.size rfl (.tmp 26) (.tmp 27) 46 3 (.int .i64 0) 8 rfl Tryz.underlying46 info3 rfl (by decide) _ _ [0] _ 1 1 (fun k => k ≠ ga ∧ k ≠ gw ∧ k ≠ gu) rfl rfl H2q.out.fresh H2q.out.r (lit_C _ [0] (by simp)) H2q.out.b H2q.out.b.size ?hl ?_; (case hl => (rw [HOL.out]; have := HLT.out; omega)); intro vH2 wH2 hr hb hg hat; have H2 := Aside0.mk (H2q.out.app hr hb hg); clear hr hb hg hat H2q)
    have hi1 := HI.out
    have hlt := HLT.out
    obtain ⟨k1, rfl⟩ : ∃ k1, gk = k1 + 1 := ⟨gk - 1, by omega⟩
    go_roundg k1
    case measure => omega
    case rel => exact ⟨i + 1, _, by go_num, ⟨by omega⟩, ⟨by rw [List.length_append, HOL.out]; rfl⟩, HG3, H2⟩
   ·go_upto_region 8 with (fail)
    go_cut [25] from 1 to 0 (fun v25 wx => wx = wr ∧ v25 = .bool false)
    case first =>
     by_cases d4 : 4 < i
     ·have e4 : decide (4 < (i : Int)) = true := decide_eq_true (by omega)
      have e0 : (way == 0) = false := beq_eq_false_iff_ne.2 (fun e => h4w ⟨d4, e⟩)
      clear d4
      go_wp2
      go_meet
      exact ⟨rfl, rfl⟩
     ·have e4 : decide (4 < (i : Int)) = false := decide_eq_false (by omega)
      clear d4
      go_wp2
      go_meet
      exact ⟨rfl, rfl⟩
    case rest =>
    obtain ⟨rfl, rfl⟩ := hcut
    have hfit := HFIT.out
    have hl512 := HL.out
    obtain ⟨i5, hi5, _, hsz5, _⟩ := info_parts info5
    have e1 : ((a : Int) + (wd : Int)).toNat = a + wd := by omega
    have e2 : ((a : Nat) : Int).toNat = a := Int.toNat_natCast _
    obtain ⟨A6, hcut6, hA6, hC6⟩ := print_mid_of (P := Tryz.prog) (Value.int .u8) 0 22 5 .i64 .i64 Tryz.underlying22 hi5 hsz5 A c l (a : Int) ((a : Int) + (wd : Int)) (by omega) (by omega) (by omega) (by rw [hl512]; exact HCC.out)
    rw [e1, e2] at hcut6 hA6 hC6
    obtain ⟨fl, hfl⟩ : ∃ fl, fl = (l.take (a + wd)).drop a := ⟨_, rfl⟩
    obtain ⟨⟨x, ok⟩, hx⟩ : ∃ p, parseF fl = p := ⟨_, rfl⟩
    have hfd : fld l a wd = fl := by rw [hfl]; rfl
    have HXV : Aside0 (parseF (fld l a wd) = (x, ok)) := ⟨by rw [hfd]; exact hx⟩
    have hbfl : Bytes fl := by rw [hfl]; exact (HBY.out.take _).drop _
    have hlfl : fl.length ≤ 512 := by rw [hfl, List.length_drop, List.length_take]; omega
    obtain ⟨kp, hkp⟩ := Ev.rounds (g := fun k => mudlarkref01_Parse.f k fl) (RefParse_eq fl hbfl (by omega))
    rw [hx] at hkp
    rw [← hfl] at hcut6 hA6 hC6
    rw [hl512] at hcut6
    have HPAR := Aside0.mk (fun (W : World) (hbw_ : Below w.heap.size w W) => mudlarkref01_Parse.calls kp A6 (c - a) fl x ok W (Kd.C_below (Kd.C_of_reads (h1 := fun _ => rfl) (hA6 _ (Kd.reads_of_C HC.out))) hbw_) hC6 hkp)
    have hws : IntKind.i64.wrap ((a : Int) + (wd : Int)) = (a : Int) + (wd : Int) := by rw [i64_w]; exact wrap64_id _ (by omega) (by omega)
    have H4W := Aside0.mk h4w
    clear hx hkp hfl hA6 hC6 hi5 hsz5 e1 e2 hfit hl512 hfd hbfl hlfl h4w
    go_upto_region 10 with (fail)
    go_region_held3 (fun w' => w'.cell? ⟨ga, i, none⟩ = some (.int .i64 (a : Int)) ∧ w'.cell? ⟨gw, i, none⟩ = some (.int .i64 (wd : Int))) (first | go_keep | exact ⟨k1, k2⟩) ((go_at_call 70; refine (HPAR.out _ (below_drew H1.out.b)).mono ?_; rintro e w7 ⟨rfl, hd7⟩; have hb7 := to_below hd7; have k1 := pw_cell_below hb7 f1; have k2 := pw_cell_below hb7 f2; have HB7 := Aside0.mk hb7; clear hb7 hd7))
    have H7 := Aside0.mk (H1.out.drew.up HB7.out)
    have f3 := (blk_cell H7.out.u i).trans HU.out
    have HOK : Aside0 ((!decide (okR l i a wd up)) = !(ok && ((!decide (x < 0) || decide (i = 4)) && !decide (up < x)))) := ⟨by
     have hiff : okR l i a wd up ↔ (ok = true ∧ (0 ≤ x ∨ i = 4) ∧ x ≤ up) := by unfold okR valF; rw [HXV.out]
     rw [show decide (okR l i a wd up) = decide (ok = true ∧ (0 ≤ x ∨ i = 4) ∧ x ≤ up) from decide_eq_decide.2 hiff]
     by_cases h1 : x < 0
     ·have h2 : ¬ 0 ≤ x := by omega
      by_cases h3 : up < x
      ·have h4 : ¬ x ≤ up := by omega
       simp [*]
      ·have h4 : x ≤ up := by omega
       simp [*]
     ·have h2 : 0 ≤ x := by omega
      by_cases h3 : up < x
      ·have h4 : ¬ x ≤ up := by omega
       simp [*]
      ·have h4 : x ≤ up := by omega
       simp [*]⟩
    clear H1 HB7 k1 k2 f1 f2 HPAR hcut6 hws
    go_upto_region 11 with (fail)
    go_cut [65] from 1 to 0 (fun v65 wx => wx = w7 ∧ v65 = .bool (!decide (okR l i a wd up)))
    case first =>
     cases ok with
     | false =>
      go_wp2
      go_meet
      exact ⟨rfl, by rw [HOK.out]; rfl⟩
     | true =>
      by_cases hx0 : x < 0
      ·have d0 : decide (x < 0) = true := decide_eq_true hx0
       by_cases hi4 : i = 4
       ·have e4 : ((i : Int) != 4) = false := by rw [hi4]; rfl
        by_cases hup : up < x
        ·have du : decide (up < x) = true := decide_eq_true hup
         have hz := HOK.out
         rw [d0, du, decide_eq_true hi4] at hz
         have HZ := Aside0.mk hz
         clear hz hx0 hi4 hup
         go_wp2
         go_meet
         exact ⟨rfl, by rw [HZ.out]; rfl⟩
        ·have du : decide (up < x) = false := decide_eq_false hup
         have hz := HOK.out
         rw [d0, du, decide_eq_true hi4] at hz
         have HZ := Aside0.mk hz
         clear hz hx0 hi4 hup
         go_wp2
         go_meet
         exact ⟨rfl, by rw [HZ.out]; rfl⟩
       ·have e4 : ((i : Int) != 4) = true := bne_iff_ne.2 (by omega)
        have hz := HOK.out
        rw [d0, decide_eq_false hi4] at hz
        have HZ := Aside0.mk hz
        clear hz hx0 hi4
        go_wp2
        go_meet
        exact ⟨rfl, by rw [HZ.out]; rfl⟩
      ·have d0 : decide (x < 0) = false := decide_eq_false hx0
       by_cases hup : up < x
       ·have du : decide (up < x) = true := decide_eq_true hup
        have hz := HOK.out
        rw [d0, du] at hz
        have HZ := Aside0.mk hz
        clear hz hx0 hup
        go_wp2
        go_meet
        exact ⟨rfl, by rw [HZ.out]; simp⟩
       ·have du : decide (up < x) = false := decide_eq_false hup
        have hz := HOK.out
        rw [d0, du] at hz
        have HZ := Aside0.mk hz
        clear hz hx0 hup
        go_wp2
        go_meet
        exact ⟨rfl, by rw [HZ.out]; simp⟩
    case rest =>
    obtain ⟨rfl, rfl⟩ := hcut
    by_cases hok : okR l i a wd up
    ·have eo : (!decide (okR l i a wd up)) = false := by rw [decide_eq_true hok]; rfl
     have HG3 : Aside0 (fieldsP l way (T7.drop (i + 1)) (o ++ [x]) = R) := ⟨by
      rw [← HG2.out]
      conv => rhs; rw [fieldsP, if_neg H4W.out, if_pos hok]
      unfold valF
      rw [HXV.out]⟩
     rw [eo]
     clear hok eo f3 HOK
     go_wp2_with ((with_reducible refine gate_builtin (b := .append) (xs := #[.tmp 66, .tmp 68]) rfl ?_); at_builtin; have H2q := Aside0.mk (H7.out.up (below_alloc (Below.refl _ _) (.cells ([x].map (Value.int .i64)).toArray 3))); refine Kd.R_append_row (Value.int .i64) 0 (h1 := fun _ => rfl) (w0 := w) w.heap.size rfl (.tmp 66) (.tmp 68) 46 3 (.int .i64 0) 8 rfl Tryz.underlying46 info3 rfl (by decide) _ _ [x] _ 1 1 (fun k => k ≠ ga ∧ k ≠ gw ∧ k ≠ gu) rfl rfl H2q.out.fresh H2q.out.r (lit_C _ [x] (by simp)) H2q.out.b H2q.out.b.size ?hl ?_; (case hl => (rw [HOL.out]; have := HLT.out; omega)); intro vH2 wH2 hr hb hg hat; have H2 := Aside0.mk (H2q.out.app hr hb hg); clear hr hb hg hat H2q)
     have hi1 := HI.out
     have hlt := HLT.out
     obtain ⟨k1, rfl⟩ : ∃ k1, gk = k1 + 1 := ⟨gk - 1, by omega⟩
     go_roundg k1
     case measure => omega
     case rel => exact ⟨i + 1, _, by go_num, ⟨by omega⟩, ⟨by rw [List.length_append, HOL.out]; rfl⟩, HG3, H2⟩
    ·have eo : (!decide (okR l i a wd up)) = true := by rw [decide_eq_false hok]; rfl
     have HN : Aside0 (fieldsP l way T7 [] = none) := ⟨by rw [← HR.out, ← HG2.out, fieldsP, if_neg H4W.out, if_neg hok]⟩
     rw [eo]
     clear hok eo f3 HOK
     go_wp2
     go_ret2
     refine ⟨_, _, rfl, ⟨?_, fun h => by cases h⟩, H7.out.b⟩
     have hn := HN.out
     rw [fieldsP_eq] at hn
     by_cases hb : numsB l way = true
     ·rw [if_pos hb] at hn; cases hn
     ·exact (Bool.eq_false_iff.2 hb).symm
  ·obtain rfl : i = 7 := by have := HI.out; omega
   have HRS : Aside0 (fieldsP l way T7 [] = some o) := ⟨by rw [← HR.out, ← HG.out]; rfl⟩
   clear hlt HG HR
   go_wp2
   go_ret2
   have hn := HRS.out
   rw [fieldsP_eq] at hn
   by_cases hb : numsB l way = true
   ·rw [if_pos hb] at hn
    injection hn with hn
    refine ⟨_, _, rfl, ⟨hb.symm, fun _ => ?_⟩, H1.out.b⟩
    rw [hn]
    exact Kd.R_mono H1.out.r (fun _ _ => trivial)
   ·rw [if_neg hb] at hn; cases hn
end Go.Proofs.YtkfcfbggojmfkaaGreatDoor.P
end

section
namespace Go.Proofs.YtkfcfbggojmfkaaGreatDoor.P
open Go.RowKit Go.Proofs.YtkfcfbggojmfkaaGreatDoorW.PrintWords Go.Proofs.YtkfcfbggojmfkaaGreatDoorW.PrintLast Go.Proofs.YtkfcfbggojmfkaaGreatDoorW.PrintMore
attribute [local go_sem] max2_int min2_int max_two min_two max_three min_three max_four min_four   -- for this text's walks alone
set_option linter.unusedVariables false
set_option linter.unusedSimpArgs false

/-! ### mudlarkref02_Cut: function 36 -/
def mudlarkref02_Cut.l0 : Nat → List Int → Int → Option (ByteArray)
 | 0, _, _ => none
 | k + 1, x0, x3 => if x3 < (x0.length : Int) then (if 0 ≤ x3 then (if (rd x0 x3) = 0 then (if x3 ≤ (x0.length : Int) then (some (strOfNums (x0.take (x3 : Int).toNat))) else (none)) else (mudlarkref02_Cut.l0 k x0 (wrap64 (x3 + 1)))) else (none)) else (some (strOfNums x0))
def mudlarkref02_Cut.f (k : Nat) (l0 : List Int) : Option (ByteArray) := mudlarkref02_Cut.l0 k l0 0
set_option maxHeartbeats 8000000 in
set_option maxRecDepth 100000 in
theorem mudlarkref02_Cut.calls (k : Nat) (A0 : Option Addr) (c0 : Nat) (l0 : List Int) (r : ByteArray) (w : World) (hr0 : Kd.C (Kd.int .u8) w A0 l0.length l0) (hc0 : l0.length ≤ c0) (h : mudlarkref02_Cut.f k l0 = some r) :
  Calls Tryz.prog 36 #[.slice A0 l0.length c0] w fun e w' => e = .returned (.string r) ∧ Drawn0 w w' := by
 have HR0 := Aside0.mk hr0
 have HC0 := Aside0.mk hc0
 clear hr0 hc0
 have H : (mudlarkref02_Cut.l0 k l0 0) = some r := h
 clear h
 have H' := Aside0.mk H
 clear H
 go_enter Tryz.func36, Tryz.ntmps36
 go_wp2
 go_loopg [3] k (fun kq v3 w' => ∃ (x3_1 : Int), v3 = .int .i64 x3_1 ∧ Aside0 (mudlarkref02_Cut.l0 kq l0 x3_1 = some r) ∧ Aside0 (kq ≤ k) ∧ Drawn0 w w')
 case atStart => exact ⟨(0), (by first | rfl | (simp; done) | (simp [*]; done)), H', ⟨Nat.le_refl _⟩, by repeat (first | exact Drawn0.refl _ | apply Drawn0.step)⟩
 case round =>
  clear H'
  obtain ⟨x3_1, rfl, HA, HK1, ⟨m1, rfl⟩⟩ := hrel
  cases gk with
  | zero => exact absurd HA.out (by simp [mudlarkref02_Cut.l0])
  | succ k1 =>
   have H := HA.out
   clear HA
   simp only [mudlarkref02_Cut.l0] at H
   by_cases c2 : x3_1 < (l0.length : Int)
   ·rw [if_pos c2] at H
    have c2b0 : decide (x3_1 < (l0.length : Int)) = true := decide_eq_true c2
    clear c2
    by_cases c3 : 0 ≤ x3_1
    ·rw [if_pos c3] at H
     have c3b0 : decide (0 ≤ x3_1) = true := decide_eq_true c3
     clear c3
     by_cases c4 : (rd l0 x3_1) = 0
     ·rw [if_pos c4] at H
      have c4b0 : ((rd l0 x3_1) == 0) = true := beq_iff_eq.mpr c4
      have c4b1 : ((rd l0 x3_1) != 0) = false := bne_eq_false_iff_eq.mpr c4
      clear c4
      have c5b0 := eq_true (of_decide_eq_true (by first | (with_reducible assumption) | assumption) : 0 ≤ x3_1)
      by_cases c6 : x3_1 ≤ (l0.length : Int)
      ·rw [if_pos c6] at H
       have c6b0 := eq_true c6
       have c6b1 : decide (x3_1 ≤ (l0.length : Int)) = true := decide_eq_true c6
       clear c6
       obtain rfl := Option.some.inj H
       have p107 : 0 ≤ (x3_1 : Int) := of_decide_eq_true (by first | (with_reducible assumption) | assumption)
       have q107 : x3_1 < (l0.length : Int) := of_decide_eq_true (by first | (with_reducible assumption) | assumption)
       obtain ⟨ad107, e107, hx107_0⟩ := Kd.at_int HR0.out x3_1 p107 q107
       cases e107
       replace p107 := eq_true p107
       replace q107 := eq_true q107
       obtain ⟨i07, hi07, _, hsz7, _⟩ := info_parts info5
       obtain ⟨hcut7, hA7, hC7⟩ := print_take_of (P := Tryz.prog) (Value.int .u8) 0 22 5 .i64 Tryz.underlying22 hi07 hsz7 (some ad107) c0 l0 x3_1 (of_decide_eq_true (by first | (with_reducible assumption) | assumption)) (of_decide_eq_true (by first | (with_reducible assumption) | assumption)) HC0.out
       have HR108 := Aside0.mk (Kd.C_of_reads (h1 := fun _ => rfl) (hA7 _ (Kd.reads_of_C HR0.out)))
       have HC108 := Aside0.mk hC7
       clear hA7 hC7 hi07 hsz7
       have hcv8 := Kd.C_string (P := Tryz.prog) (A := (some ad107)) (c := c0) Tryz.underlying22 Tryz.underlying5 Tryz.underlying9 HR108.out
       (try have hcv8d := fun m_ => Kd.C_string (P := Tryz.prog) (A := (some ad107)) (c := c0) Tryz.underlying22 Tryz.underlying5 Tryz.underlying9 (Kd.C_drewN HR108.out m_))
       (try have hcv8l : (l0.take (x3_1 : Int).toNat).length = (x3_1 : Int).toNat := by have h1_ : (0 : Int) ≤ x3_1 := of_decide_eq_true (by first | (with_reducible assumption) | assumption); have h2_ : x3_1 ≤ (l0.length : Int) := of_decide_eq_true (by first | (with_reducible assumption) | assumption); rw [List.length_take]; omega)
       (try rw [hcv8l] at hcv8)
       (try simp only [hcv8l] at hcv8d)
       (try clear hcv8l)
       go_wp2
       go_ret
       exact ⟨by first | rfl | (simp; done) | (simp [*]; done), by repeat (first | exact Drawn0.refl _ | apply Drawn0.step)⟩
      ·rw [if_neg c6] at H
       exact absurd H (by simp)
     ·rw [if_neg c4] at H
      have c4b0 : ((rd l0 x3_1) == 0) = false := beq_eq_false_iff_ne.mpr c4
      have c4b1 : ((rd l0 x3_1) != 0) = true := bne_iff_ne.mpr c4
      have H' := Aside0.mk H
      clear H
      have p107 : 0 ≤ (x3_1 : Int) := of_decide_eq_true (by first | (with_reducible assumption) | assumption)
      have q107 : x3_1 < (l0.length : Int) := of_decide_eq_true (by first | (with_reducible assumption) | assumption)
      obtain ⟨ad107, e107, hx107_0⟩ := Kd.at_int HR0.out x3_1 p107 q107
      cases e107
      replace p107 := eq_true p107
      replace q107 := eq_true q107
      go_wp2
      go_roundg k1
      case measure => have := HK1.out; omega
      case rel => exact ⟨(wrap64 (x3_1 + 1)), (by first | rfl | (simp; done) | (simp [*]; done)), H', ⟨by have := HK1.out; omega⟩, by repeat (first | exact Drawn0.refl _ | apply Drawn0.step)⟩
    ·rw [if_neg c3] at H
     exact absurd H (by simp)
   ·rw [if_neg c2] at H
    have c2b0 : decide (x3_1 < (l0.length : Int)) = false := decide_eq_false c2
    clear c2
    obtain rfl := Option.some.inj H
    have hcv9 := Kd.C_string (P := Tryz.prog) (A := A0) (c := c0) Tryz.underlying22 Tryz.underlying5 Tryz.underlying9 HR0.out
    (try have hcv9d := fun m_ => Kd.C_string (P := Tryz.prog) (A := A0) (c := c0) Tryz.underlying22 Tryz.underlying5 Tryz.underlying9 (Kd.C_drewN HR0.out m_))
    (try have hcv9l : (l0.take (x3_1 : Int).toNat).length = (x3_1 : Int).toNat := by have h1_ : (0 : Int) ≤ x3_1 := of_decide_eq_true (by first | (with_reducible assumption) | assumption); have h2_ : x3_1 ≤ (l0.length : Int) := of_decide_eq_true (by first | (with_reducible assumption) | assumption); rw [List.length_take]; omega)
    (try rw [hcv9l] at hcv9)
    (try simp only [hcv9l] at hcv9d)
    (try clear hcv9l)
    go_wp2
    go_ret
    exact ⟨by first | rfl | (simp; done) | (simp [*]; done), by repeat (first | exact Drawn0.refl _ | apply Drawn0.step)⟩

end Go.Proofs.YtkfcfbggojmfkaaGreatDoor.P
end

section
namespace Go.Proofs.YtkfcfbggojmfkaaGreatDoor.P
open Go.RowKit Go.Shelf Go.Lib Go.Proofs.YtkfcfbggojmfkaaGreatDoorW.PrintWords Go.Proofs.YtkfcfbggojmfkaaGreatDoorW.PrintLast Go.Proofs.YtkfcfbggojmfkaaGreatDoorW.PrintMore
set_option linter.unusedVariables false
set_option linter.unusedSimpArgs false

theorem refCut (l : List Int) (hl : l.length ≤ 4294967296) : ∀ (d i : Nat), l.length - i = d → i ≤ l.length → Ev (fun k => mudlarkref02_Cut.l0 k l (i : Int)) (strOfNums (l.take i ++ cutF (l.drop i)))
 | 0, i, hd, hi => by
  obtain rfl : i = l.length := by omega
  have e : l.take l.length ++ cutF (l.drop l.length) = l := by rw [List.drop_eq_nil_of_le (Nat.le_refl _), List.take_length]; simp [cutF]
  rw [e]
  refine Ev.step (f := fun _ => some (strOfNums l)) (fun k => ?_) (Ev.now _)
  simp only [mudlarkref02_Cut.l0]
  rw [if_neg (by omega)]
 | d + 1, i, hd, hi => by
  have hlt : i < l.length := by omega
  have ed : l.drop i = l[i] :: l.drop (i + 1) := List.drop_eq_getElem_cons hlt
  have c1 : (i : Int) < (l.length : Int) := by omega
  have c2 : (0 : Int) ≤ (i : Int) := by omega
  have c3 : (i : Int) ≤ (l.length : Int) := by omega
  rw [ed]
  by_cases h : l[i] = 0
  ·have e : cutF (l[i] :: l.drop (i + 1)) = [] := by unfold cutF; rw [h]; rfl
   rw [e, List.append_nil]
   refine Ev.step (f := fun _ => some (strOfNums (l.take i))) (fun k => ?_) (Ev.now _)
   simp only [mudlarkref02_Cut.l0]
   rw [if_pos c1, if_pos c2, rd_at l i hlt, if_pos h, if_pos c3, Int.toNat_natCast]
  ·have e : cutF (l[i] :: l.drop (i + 1)) = l[i] :: cutF (l.drop (i + 1)) := by unfold cutF; rw [List.takeWhile_cons, if_pos (by simpa using h)]
   have ih := refCut l hl d (i + 1) (by omega) (by omega)
   rw [List.take_succ_eq_append_getElem hlt, List.append_assoc] at ih
   rw [e]
   refine Ev.step (fun k => ?_) ih
   simp only [mudlarkref02_Cut.l0]
   rw [if_pos c1, if_pos c2, rd_at l i hlt, if_neg h, next_i i (by omega)]
theorem RefCut_eq (l : List Int) (hl : l.length ≤ 4294967296) : Ev (fun k => mudlarkref02_Cut.f k l) (strOfNums (cutF l)) := by
 have h := refCut l hl l.length 0 (by omega) (Nat.zero_le _)
 rwa [List.take_zero, List.nil_append, List.drop_zero] at h
end Go.Proofs.YtkfcfbggojmfkaaGreatDoor.P
end

section
namespace Go.Proofs.YtkfcfbggojmfkaaGreatDoor.P
open Go Go.RowKit Go.Proofs.YtkfcfbggojmfkaaGreatDoorW.PrintWords Go.Proofs.YtkfcfbggojmfkaaGreatDoorW.PrintLast Go.Proofs.YtkfcfbggojmfkaaGreatDoorW.PrintMore
set_option linter.unusedVariables false
set_option linter.unusedSimpArgs false

theorem idx_at (s : ByteArray) (i : Nat) (hi : i < 3) (hn : ∀ j : Nat, j < i → ¬ s.toList = (magicB (j : Int)).toList) (he : s.toList = (magicB (i : Int)).toList) : idxM s = (i : Int) := by
 unfold idxM
 match i, hi with
 | 0, _ => exact if_pos he
 | 1, _ => exact (if_neg (hn 0 (by decide))).trans (if_pos he)
 | 2, _ => exact (if_neg (hn 0 (by decide))).trans ((if_neg (hn 1 (by decide))).trans (if_pos he))
theorem idx_none (s : ByteArray) (hn : ∀ j : Nat, j < 3 → ¬ s.toList = (magicB (j : Int)).toList) : idxM s = -1 := by
 unfold idxM
 exact (if_neg (hn 0 (by decide))).trans ((if_neg (hn 1 (by decide))).trans (if_neg (hn 2 (by decide))))
set_option maxRecDepth 100000 in
set_option maxHeartbeats 8000000 in
theorem ref_way (A : Option Addr) (n c : Nat) (l : List Int) (w : World) (hr : Kd.C (Kd.int .u8) w A l.length l) (hn : n = l.length) (hc : n ≤ c) :
  Calls Tryz.prog 17 #[.slice A n c] w fun e w' => e = .returned (.tuple #[.int .i64 (wayF l).1, .bool (wayF l).2]) ∧ Below w.heap.size w w' := by
 by_cases h5 : n = 512
 ·have hl : l.length = 512 := by omega
  subst h5
  obtain ⟨i06, hi06, _, hsz6, _⟩ := info_parts info5
  obtain ⟨A6, hcut6, hA6, hC6⟩ := print_mid_of (P := Tryz.prog) (Value.int .u8) 0 22 5 .i64 .i64 Tryz.underlying22 hi06 hsz6 A c l 257 265 (by omega) (by omega) (by omega) (by omega)
  obtain ⟨fl, hfl⟩ : ∃ fl, fl = (l.take 265).drop 257 := ⟨_, rfl⟩
  have hfe : (l.take (265 : Int).toNat).drop (257 : Int).toNat = fl := hfl.symm
  rw [hfe] at hcut6 hA6 hC6
  rw [hl] at hcut6
  have hcut6 : ∀ W : World, (Instr.slice 22 (.slice A 512 c) (some (.int .i64 257)) (some (.int .i64 265)) none).run Tryz.prog W = .ok (.slice A6 fl.length (c - 257)) W := hcut6
  obtain ⟨s, hs⟩ : ∃ s, s = strOfNums fl := ⟨_, rfl⟩
  have hcv : ∀ W : World, Below w.heap.size w W → (convert 22 9 (.slice A6 fl.length (c - 257))).run Tryz.prog W = .ok (.string s) W := fun W hb => by
   rw [hs]
   exact string_of_reads Tryz.underlying22 Tryz.underlying5 Tryz.underlying9 (hA6 _ (Kd.reads_of_C (Kd.C_below hr hb)))
  have HW : Aside0 (wayF l = if 0 ≤ idxM s then (idxM s, true) else (0, false)) := ⟨by unfold wayF; rw [if_pos hl, hs, hfl]⟩
  have HCV := Aside0.mk hcv
  have HCUT := Aside0.mk hcut6
  clear hr hn hc hl hi06 hsz6 hA6 hC6 hfl hfe hs hcut6 hcv
  go_enter Tryz.func17, Tryz.ntmps17
  go_wp2
  go_loopg [4] 3 (fun kq v4 wx => ∃ i : Nat, v4 = .int .i64 (i : Int) ∧ Aside0 (i + kq = 3) ∧ Aside0 (∀ j : Nat, j < i → ¬ s.toList = (magicB (j : Int)).toList) ∧ Aside0 (Below w.heap.size w wx))
  case atStart => exact ⟨0, rfl, ⟨Nat.zero_add _⟩, ⟨fun j hj => absurd hj (Nat.not_lt_zero j)⟩, ⟨Below.refl _ _⟩⟩
  case round =>
   obtain ⟨i, rfl, HI, HNE, HB⟩ := hrel
   by_cases hlt : i < 3
   ·have q0 : ((i : Int) < 3) = True := eq_true (by omega)
    have q1 : (i < 3) = True := eq_true hlt
    have hmx : (i : Int) ≤ 2 := by omega
    have HLT := Aside0.mk hlt
    obtain ⟨ms, hms⟩ : ∃ m, m = magicB (i : Int) := ⟨_, rfl⟩
    have HMG := Aside0.mk (ref_magic (i : Int) (by omega))
    rw [← hms] at HMG
    have HMS := Aside0.mk hms
    clear hms hlt
    go_upto_region 6 with (fail)
    refine start_ (n := 6) (S := fun w' => Below w.heap.size w w') (ds := []) #[false, false, false, false, false, false] (by kernel_rfl) rfl rfl (below_drew HB.out) (fun hHeld => ?_)
    refine pure_ (i := 0) (N := some 12) (v := .slice A 512 c) #[true, false, false, false, false, false] rfl rfl (by kernel_rfl) (fun _ _ _ h => h) (Or.inl ⟨by rfl, by intro w'; go_simp⟩) rfl ?_
    simp only [Act.put, List.setIfInBounds_toArray, List.set_cons_zero, List.set_cons_succ]
    refine pure_ (i := 1) (N := some 13) (v := .slice A6 fl.length (c - 257)) #[true, true, false, false, false, false] rfl rfl (by kernel_rfl) (fun _ _ _ h => h) (Or.inl ⟨by rfl, ?hy1⟩) rfl ?h1
    case hy1 =>
     intro w'
     have h6 := HCUT.out w'
     go_simp
    simp only [Act.put, List.setIfInBounds_toArray, List.set_cons_zero, List.set_cons_succ]
    refine take_ (i := 2) (N := some 14) (v := .string s) #[true, true, true, false, false, false] rfl rfl (by kernel_rfl) (fun _ _ _ h => h) (Or.inl ⟨by rfl, ?hy2⟩) hHeld rfl ?h2
    case hy2 =>
     intro w' hS
     have h6 := HCV.out w' hS
     go_simp
    simp only [Act.put, List.setIfInBounds_toArray, List.set_cons_zero, List.set_cons_succ]
    refine pure_ (i := 3) (N := some 15) (v := .int .i64 (i : Int)) #[true, true, true, true, false, false] rfl rfl (by kernel_rfl) (fun _ _ _ h => h) (Or.inl ⟨by rfl, by intro w'; go_simp⟩) rfl ?_
    simp only [Act.put, List.setIfInBounds_toArray, List.set_cons_zero, List.set_cons_succ]
    refine one_ (i := 4) (N := some 16) #[true, true, true, true, true, false] rfl rfl (by kernel_rfl) (by decide) (fun K hK => ?_)
    refine goes_ Tryz.func39 (by kernel_rfl) rfl #[.int .i64 (i : Int)] (by rfl) rfl rfl (by simp only [List.map_toArray, List.map_cons, List.map_nil]; rfl) ?_
    refine (HMG.out _).mono ?_
    rintro e w5 ⟨rfl, hb5⟩
    refine ⟨_, rfl, ?_⟩
    have HB5 := Aside0.mk (below_step hHeld hb5)
    clear hHeld hb5
    refine hK.out _ _ HB5.out (fun hHeld => ?_)
    clear hK K hHeld
    simp only [Act.put, List.setIfInBounds_toArray, List.set_cons_zero, List.set_cons_succ]
    by_cases he : s.toList = ms.toList
    ·refine pure_ (i := 5) (N := some 17) (v := .bool true) #[true, true, true, true, true, true] rfl rfl (by kernel_rfl) (fun _ _ _ h => h) (Or.inl ⟨by rfl, by intro w'; go_simp⟩) rfl ?_
     simp only [Act.put, List.setIfInBounds_toArray, List.set_cons_zero, List.set_cons_succ]
     refine done_ (by kernel_rfl) ?_
     have hix := idx_at s i HLT.out HNE.out (by rw [← HMS.out]; exact he)
     have hw := HW.out
     rw [hix, if_pos (by omega)] at hw
     have HWW := Aside0.mk hw
     clear hix hw he
     go_wp2
     go_ret2
     exact ⟨by rw [HWW.out]; rfl, HB5.out⟩
    ·have hne := he
     refine pure_ (i := 5) (N := some 17) (v := .bool false) #[true, true, true, true, true, true] rfl rfl (by kernel_rfl) (fun _ _ _ h => h) (Or.inl ⟨by rfl, by intro w'; go_simp⟩) rfl ?_
     simp only [Act.put, List.setIfInBounds_toArray, List.set_cons_zero, List.set_cons_succ]
     refine done_ (by kernel_rfl) ?_
     have HNN : Aside0 (∀ j : Nat, j < i + 1 → ¬ s.toList = (magicB (j : Int)).toList) := ⟨fun j hj => by
      by_cases hji : j < i
      ·exact HNE.out j hji
      ·have : j = i := by omega
       rw [this, ← HMS.out]
       exact hne⟩
     clear he hne
     go_wp2
     have hi1 := HI.out
     have hlt := HLT.out
     obtain ⟨k1, rfl⟩ : ∃ k1, gk = k1 + 1 := ⟨gk - 1, by omega⟩
     go_roundg k1
     case measure => omega
     case rel => exact ⟨i + 1, by go_num, ⟨by omega⟩, HNN, HB5⟩
   ·obtain rfl : i = 3 := by have := HI.out; omega
    have hw := HW.out
    rw [idx_none s HNE.out, if_neg (by decide)] at hw
    have HWW := Aside0.mk hw
    clear hlt hw
    go_wp2
    go_ret2
    exact ⟨by rw [HWW.out]; rfl, HB.out⟩
 ·have n0 : ((n : Int) != 512) = true := bne_iff_ne.2 (by omega)
  have HWW : Aside0 (wayF l = (0, false)) := ⟨by unfold wayF; rw [if_neg (by omega)]⟩
  clear h5 hr hn hc
  go_enter Tryz.func17, Tryz.ntmps17
  go_wp2
  go_ret2
  exact ⟨by rw [HWW.out]; rfl, Below.refl _ _⟩
end Go.Proofs.YtkfcfbggojmfkaaGreatDoor.P
end

section
namespace Go.Proofs.YtkfcfbggojmfkaaGreatDoor.P
open Go Go.RowKit Go.Proofs.YtkfcfbggojmfkaaGreatDoorW.PrintWords Go.Proofs.YtkfcfbggojmfkaaGreatDoorW.PrintLast Go.Proofs.YtkfcfbggojmfkaaGreatDoorW.PrintMore
set_option linter.unusedVariables false
set_option linter.unusedSimpArgs false

theorem alloc2 (W : World) (a b : Array Value) (ta tb : TypeId) : ((W.alloc (.cells a ta)).alloc (.cells b tb)).heap[W.heap.size]? = some (.cells a ta (0, 0)) ∧ ((W.alloc (.cells a ta)).alloc (.cells b tb)).heap[W.heap.size + 1]? = some (.cells b tb (0, 0)) ∧ Below W.heap.size W ((W.alloc (.cells a ta)).alloc (.cells b tb)) := by
 have h1 := row2_alloc W a ta
 have s1 : (W.alloc (.cells a ta)).heap.size = W.heap.size + 1 := by simp
 have h2 := row2_alloc (W.alloc (.cells a ta)) b tb
 rw [s1] at h2
 have b1 := below_alloc (Below.refl W.heap.size W) (.cells a ta)
 have b2 := below_alloc (Below.refl (W.alloc (.cells a ta)).heap.size (W.alloc (.cells a ta))) (.cells b tb)
 exact ⟨blk_below h1 b2, h2, below_step b1 b2⟩
def holesH (h : S31) (l : List Int) : S31 := { h with f14 := (partsR l 386 4).1, f15 := rd l 482 != 0, f16 := valF l 483 12 }
structure HX (w : World) (g0 g4 : Nat) (h : S31) (v v14 : Value) (Ps : List S64) (W : World) : Prop where
 k0 : W.heap[g0]? = some (.cells (cells25 h v) 31 (0, 0))
 k4 : W.heap[g4]? = some (.cells zeroH 31 (0, 0))
 r : Kd.R k64 64 W w.heap.size (fun k => k ≠ g0 ∧ k ≠ g4) v14 Ps
 b : Below w.heap.size w W
 lo : w.heap.size ≤ g0 ∧ w.heap.size ≤ g4 ∧ g0 ≠ g4
theorem HX.up {w W W' : World} {g0 g4 : Nat} {h : S31} {v v14 : Value} {Ps : List S64} (p : HX w g0 g4 h v v14 Ps W) (hb : Below W.heap.size W W') : HX w g0 g4 h v v14 Ps W' := ⟨blk_below p.k0 hb, blk_below p.k4 hb, Kd.R_below p.r hb, below_step p.b hb, p.lo⟩
theorem HX.set {w W : World} {g0 g4 : Nat} {h h' : S31} {v v' v14 : Value} {Ps : List S64} (p : HX w g0 g4 h v v14 Ps W) (i : Nat) (u : Value) (hc : (cells25 h v).setIfInBounds i u = cells25 h' v') : HX w g0 g4 h' v' v14 Ps (W.setCell ⟨g0, i, none⟩ u) :=
 ⟨by rw [← hc]; exact blk_set p.k0 i u, blk_far p.k4 (fun e => p.lo.2.2 e.symm) u, Kd.R_grown p.r (grown_setCell0 W g0 i u) (fun k hk e => hk.1 (by injection e)), pw_below_grown p.b (some g0) p.b.size (grown_setCell0 W g0 i u) (fun k hk => by injection hk with hk; have := p.lo; omega), p.lo⟩
set_option maxRecDepth 100000 in
set_option maxHeartbeats 8000000 in
theorem ref_holes (h : S31) (v : Value) (hv : v.oneCell' = true) (A : Option Addr) (c : Nat) (l : List Int) (w : World) (hr : Kd.C (Kd.int .u8) w A l.length l) (hl : l.length = 512) (hc : 512 ≤ c) (hby : Bytes l) :
  Calls Tryz.prog 37 #[.agg (cells25 h v), .slice A 512 c] w fun e w' => ∃ (v14 : Value) (cs : Array Value), Aside0 (Hdr (holesH h l) v14 cs) ∧ e = .returned (.tuple #[.agg cs, .bool (sparseB l)]) ∧ Aside0 (Kd.R k64 64 w' w.heap.size (fun _ => True) v14 (partsR l 386 4).1) ∧ Below w.heap.size w w' := by
 obtain ⟨Ps, ok1, hP⟩ : ∃ Ps ok, partsR l 386 4 = (Ps, ok) := ⟨_, _, rfl⟩
 obtain ⟨k2, hk2⟩ := Ev.rounds (g := fun k => mudlarkref08_Parts.f k l 386 4) (RefParts_ev l hby (by rw [hl]; decide) 386 4)
 rw [hP] at hk2
 have H2 := Aside0.mk (fun (W : World) (hB : Below w.heap.size w W) => mudlarkref08_Parts.calls k2 A c l 386 4 Ps ok1 W (Kd.C_below hr hB) (by rw [hl]; exact hc) hk2)
 obtain ⟨i5, hi5, _, hsz5, _⟩ := info_parts info5
 obtain ⟨A6, hcut6, hA6, hC6⟩ := print_mid_of (P := Tryz.prog) (Value.int .u8) 0 22 5 .i64 .i64 Tryz.underlying22 hi5 hsz5 A c l 483 495 (by decide) (by decide) (by rw [hl]; decide) (by rw [hl]; exact hc)
 obtain ⟨fl, hfl⟩ : ∃ fl, fl = fld l 483 12 := ⟨_, rfl⟩
 have hfe : (l.take (495 : Int).toNat).drop (483 : Int).toNat = fl := by rw [hfl]; rfl
 rw [hfe] at hcut6 hA6 hC6
 rw [hl] at hcut6
 obtain ⟨⟨x, ok2⟩, hx⟩ : ∃ p, parseF fl = p := ⟨_, rfl⟩
 have hbfl : Bytes fl := by rw [hfl]; exact (hby.take _).drop _
 have hlfl : fl.length ≤ 512 := by rw [hfl]; unfold fld; rw [List.length_drop, List.length_take]; omega
 obtain ⟨kp, hkp⟩ := Ev.rounds (g := fun k => mudlarkref01_Parse.f k fl) (RefParse_eq fl hbfl (by omega))
 rw [hx] at hkp
 have HPAR := Aside0.mk (fun (W : World) (hbw_ : Below w.heap.size w W) => mudlarkref01_Parse.calls kp A6 (c - (483 : Int).toNat) fl x ok2 W (Kd.C_below (Kd.C_of_reads (h1 := fun _ => rfl) (hA6 _ (Kd.reads_of_C hr))) hbw_) hC6 hkp)
 have HSB : Aside0 (sparseB l = (ok1 && (ok2 && (decide (0 ≤ x) && decide (x ≤ 1099511627776))))) := ⟨by unfold sparseB okF valF; rw [hP, ← hfl, hx]⟩
 have HHH : Aside0 (holesH h l = { h with f14 := Ps, f15 := rd l 482 != 0, f16 := x }) := ⟨by unfold holesH valF; rw [hP, ← hfl, hx]⟩
 obtain ⟨ad, eA, hy⟩ := Kd.at_int hr 482 (by omega) (by omega)
 subst eA
 have hy : w.cell? ⟨ad.block, ad.off + 482, none⟩ = some (.int .u8 (rd l 482)) := by simpa [Addr.add] using hy
 have HLL : Aside0 ((partsR l 386 4).1 = Ps) := ⟨by rw [hP]⟩
 rw [HLL.out]
 generalize rd l 482 = y at hy HHH
 rw [hl] at H2
 have hcut6 : ∀ W : World, (Instr.slice 22 (.slice (some ad) 512 c) (some (.int .i64 483)) (some (.int .i64 495)) none).run Tryz.prog W = .ok (.slice A6 fl.length (c - 483)) W := hcut6
 have HPAR := Aside0.mk (show ∀ (W : World), Below w.heap.size w W → Calls Tryz.prog 70 #[.slice A6 fl.length (c - 483)] W fun e w' => e = .returned (.tuple #[.int .i64 x, .bool ok2]) ∧ Drawn0 W w' from HPAR.out)
 obtain ⟨cs, hcs⟩ : ∃ cs, cs = cells25 h v := ⟨_, rfl⟩
 rw [← hcs]
 have HCS := Aside0.mk hcs
 have HV := Aside0.mk hv
 clear hr hl hby hk2 hP hA6 hC6 hx hkp hbfl hlfl hfl hfe hi5 hsz5 hcs hv
 go_enter Tryz.func37, Tryz.ntmps37
 go_upto_region 1 with (fail)
 have ha := alloc2 w cs zeroH 31 31
 change Code.wp _ _ _ _ ((w.alloc (.cells cs 31)).alloc (.cells zeroH 31))
 generalize (w.alloc (.cells cs 31)).alloc (.cells zeroH 31) = w1 at ha ⊢
 obtain ⟨g0, hg0⟩ : ∃ n, n = w.heap.size := ⟨_, rfl⟩
 rw [← hg0] at ha ⊢
 obtain ⟨g4, hg4⟩ : ∃ n, n = g0 + 1 := ⟨_, rfl⟩
 rw [← hg4] at ha ⊢
 have HK := Aside0.mk ha
 have HLO := Aside0.mk (show w.heap.size ≤ g0 ∧ w.heap.size ≤ g4 ∧ g0 ≠ g4 by omega)
 have HB1 := Aside0.mk (show Below w.heap.size w w1 by have := HK.out.2.2; rwa [hg0] at this)
 clear ha hg0 hg4
 go_upto_region 3 with (first | (go_at_call 71; refine (H2.out _ HB1.out).mono ?_; rintro e w2 ⟨v14, rfl, hR2, hb2⟩; have HR2 := Aside0.mk hR2; have HB2 := Aside0.mk hb2; clear hR2 hb2) | (go_at_call 70; refine (HPAR.out _ (below_step HB1.out HB2.out)).mono ?_; rintro e w3 ⟨rfl, hd3⟩; have HB3 := Aside0.mk (drawn_below hd3); clear hd3))
 have H3 : Aside0 (HX w g0 g4 h v v14 Ps w3) := ⟨by
  have hk := HK.out
  have hb := below_step HB2.out HB3.out
  refine ⟨?_, blk_below hk.2.1 hb, ?_, below_step HB1.out hb, HLO.out⟩
  ·rw [← HCS.out]; exact blk_below hk.1 hb
  ·have hr := Kd.R_below (Kd.R_mono (Kd.R_bound HR2.out) (ok' := fun k => k ≠ g0 ∧ k ≠ g4) (fun k hkk => ⟨fun e => by have := hkk.2.1; have := blk_lt hk.1; omega, fun e => by have := hkk.2.1; have := blk_lt hk.2.1; omega⟩)) HB3.out
   exact Kd.R_lower hr HB1.out.size⟩
 obtain ⟨A14, c14n, hv14⟩ := Kd.R_slice H3.out.r
 obtain ⟨np, hnp⟩ : ∃ n, n = Ps.length := ⟨_, rfl⟩
 rw [← hnp] at hv14
 clear hnp
 subst hv14
 have HV14 := Aside0.mk (show (Value.slice A14 np c14n).oneCell' = true from rfl)
 have c14 : w3.cell? ⟨g0, 14, none⟩ = some v := (blk_cell H3.out.k0 14).trans rfl
 have y14 := blk_frozen H3.out.k0 14
 clear HK HB1 HR2 HB2 HB3 H2 HPAR hcut6
 go_upto_region 4 with (fail)
 have H4 := Aside0.mk (H3.out.set (h' := { h with f14 := Ps }) (v' := .slice A14 np c14n) 14 (.slice A14 np c14n) rfl)
 generalize World.setCell _ _ _ = w4 at H4 ⊢
 have c15 : w4.cell? ⟨g0, 15, none⟩ = some (.bool h.f15) := (blk_cell H4.out.k0 15).trans rfl
 have y15 := blk_frozen H4.out.k0 15
 have hy4 := pw_cell_below H4.out.b hy
 clear c14 y14 H3
 go_upto_region 5 with (fail)
 have H5 := Aside0.mk (H4.out.set (h' := { h with f14 := Ps, f15 := y != 0 }) (v' := (.slice A14 np c14n)) 15 (.bool (y != 0)) rfl)
 generalize World.setCell _ _ _ = w5 at H5 ⊢
 have c16 : w5.cell? ⟨g0, 16, none⟩ = some (.int .i64 h.f16) := (blk_cell H5.out.k0 16).trans rfl
 have y16 := blk_frozen H5.out.k0 16
 clear c15 y15 H4 hy4 hy
 go_upto_region 6 with (fail)
 have H6 := Aside0.mk (H5.out.set (h' := { h with f14 := Ps, f15 := y != 0, f16 := x }) (v' := (.slice A14 np c14n)) 16 (.int .i64 x) rfl)
 generalize World.setCell _ _ _ = w6 at H6 ⊢
 obtain ⟨cs2, hcs2⟩ : ∃ c, c = cells25 { h with f14 := Ps, f15 := y != 0, f16 := x } (.slice A14 np c14n) := ⟨_, rfl⟩
 have HD2 := Aside0.mk (show Hdr { h with f14 := Ps, f15 := y != 0, f16 := x } (.slice A14 np c14n) cs2 from ⟨hcs2⟩)
 have HK0 := Aside0.mk (show w6.heap[g0]? = some (.cells cs2 31 (0, 0)) by rw [hcs2]; exact H6.out.k0)
 have HRF := Aside0.mk (Kd.R_mono (Kd.R_grown H6.out.r (grown_setRow w6 g4 cs2) (fun k hk e => hk.2 (by injection e))) (ok' := fun _ => True) (fun _ _ => trivial))
 have HBF := Aside0.mk (pw_below_grown H6.out.b (some g4) H6.out.b.size (grown_setRow w6 g4 cs2) (fun k hk => by injection hk with hk; have := HLO.out; omega))
 clear hcs2 c16 y16 H5
 cases ok1 with
 | false =>
  go_wp2_with (first | (refine wpList_load_row rfl 31 _ rfl g0 rfl 31 cs2 (0, 0) _ HK0.out Tryz.underlying31 rfl (by rw [HD2.out.size]; kernel_rfl) ?_) | (refine wpList_store_rowTo rfl 31 _ _ rfl rfl g4 cs2 rfl rfl 31 zeroH H6.out.k4 (by rw [HD2.out.size]; kernel_rfl) (by rw [HD2.out.size]; rfl) (HD2.out.one HV14.out) ?_))
  refine bodyPost_ret (results_ct rfl _ _ g4 31 cs2 (0, 0) _ rfl (setRow_same H6.out.k4) Tryz.underlying31 rfl (by rw [HD2.out.size]; kernel_rfl)) rfl ?_
  exact ⟨_, cs2, ⟨by rw [HHH.out]; exact HD2.out⟩, by rw [HSB.out]; rfl, HRF, HBF.out⟩
 | true =>
  cases ok2 with
  | false =>
   go_wp2_with (first | (refine wpList_load_row rfl 31 _ rfl g0 rfl 31 cs2 (0, 0) _ HK0.out Tryz.underlying31 rfl (by rw [HD2.out.size]; kernel_rfl) ?_) | (refine wpList_store_rowTo rfl 31 _ _ rfl rfl g4 cs2 rfl rfl 31 zeroH H6.out.k4 (by rw [HD2.out.size]; kernel_rfl) (by rw [HD2.out.size]; rfl) (HD2.out.one HV14.out) ?_))
   refine bodyPost_ret (results_ct rfl _ _ g4 31 cs2 (0, 0) _ rfl (setRow_same H6.out.k4) Tryz.underlying31 rfl (by rw [HD2.out.size]; kernel_rfl)) rfl ?_
   exact ⟨_, cs2, ⟨by rw [HHH.out]; exact HD2.out⟩, by rw [HSB.out]; rfl, HRF, HBF.out⟩
  | true =>
   by_cases h0 : 0 ≤ x
   ·have d0 : decide (0 ≤ x) = true := decide_eq_true h0
    have hz := HSB.out
    rw [d0] at hz
    by_cases h1 : x ≤ 1099511627776
    ·have d1 : decide (x ≤ 1099511627776) = true := decide_eq_true h1
     rw [d1] at hz
     have HSB := Aside0.mk hz
     clear hz h0 h1
     go_wp2_with (first | (refine wpList_load_row rfl 31 _ rfl g0 rfl 31 cs2 (0, 0) _ HK0.out Tryz.underlying31 rfl (by rw [HD2.out.size]; kernel_rfl) ?_) | (refine wpList_store_rowTo rfl 31 _ _ rfl rfl g4 cs2 rfl rfl 31 zeroH H6.out.k4 (by rw [HD2.out.size]; kernel_rfl) (by rw [HD2.out.size]; rfl) (HD2.out.one HV14.out) ?_))
     refine bodyPost_ret (results_ct rfl _ _ g4 31 cs2 (0, 0) _ rfl (setRow_same H6.out.k4) Tryz.underlying31 rfl (by rw [HD2.out.size]; kernel_rfl)) rfl ?_
     exact ⟨_, cs2, ⟨by rw [HHH.out]; exact HD2.out⟩, by rw [HSB.out]; rfl, HRF, HBF.out⟩
    ·have d1 : decide (x ≤ 1099511627776) = false := decide_eq_false h1
     rw [d1] at hz
     have HSB := Aside0.mk hz
     clear hz h0 h1
     go_wp2_with (first | (refine wpList_load_row rfl 31 _ rfl g0 rfl 31 cs2 (0, 0) _ HK0.out Tryz.underlying31 rfl (by rw [HD2.out.size]; kernel_rfl) ?_) | (refine wpList_store_rowTo rfl 31 _ _ rfl rfl g4 cs2 rfl rfl 31 zeroH H6.out.k4 (by rw [HD2.out.size]; kernel_rfl) (by rw [HD2.out.size]; rfl) (HD2.out.one HV14.out) ?_))
     refine bodyPost_ret (results_ct rfl _ _ g4 31 cs2 (0, 0) _ rfl (setRow_same H6.out.k4) Tryz.underlying31 rfl (by rw [HD2.out.size]; kernel_rfl)) rfl ?_
     exact ⟨_, cs2, ⟨by rw [HHH.out]; exact HD2.out⟩, by rw [HSB.out]; rfl, HRF, HBF.out⟩
   ·have d0 : decide (0 ≤ x) = false := decide_eq_false h0
    have hz := HSB.out
    rw [d0] at hz
    have HSB := Aside0.mk hz
    clear hz h0
    go_wp2_with (first | (refine wpList_load_row rfl 31 _ rfl g0 rfl 31 cs2 (0, 0) _ HK0.out Tryz.underlying31 rfl (by rw [HD2.out.size]; kernel_rfl) ?_) | (refine wpList_store_rowTo rfl 31 _ _ rfl rfl g4 cs2 rfl rfl 31 zeroH H6.out.k4 (by rw [HD2.out.size]; kernel_rfl) (by rw [HD2.out.size]; rfl) (HD2.out.one HV14.out) ?_))
    refine bodyPost_ret (results_ct rfl _ _ g4 31 cs2 (0, 0) _ rfl (setRow_same H6.out.k4) Tryz.underlying31 rfl (by rw [HD2.out.size]; kernel_rfl)) rfl ?_
    exact ⟨_, cs2, ⟨by rw [HHH.out]; exact HD2.out⟩, by rw [HSB.out]; rfl, HRF, HBF.out⟩
end Go.Proofs.YtkfcfbggojmfkaaGreatDoor.P
end

section
namespace Go.Proofs.YtkfcfbggojmfkaaGreatDoor.P
open Go Go.RowKit Go.Proofs.YtkfcfbggojmfkaaGreatDoorW.PrintWords Go.Proofs.YtkfcfbggojmfkaaGreatDoorW.PrintLast Go.Proofs.YtkfcfbggojmfkaaGreatDoorW.PrintMore
set_option linter.unusedVariables false
set_option linter.unusedSimpArgs false

def RPost (l : List Int) (w : World) (e : Ending) (w' : World) : Prop := ∃ (v14 : Value) (cs : Array Value), Aside0 (Hdr (parseR l) v14 cs) ∧ e = .returned (.tuple #[.agg cs, .int .i64 (parseN l)]) ∧ Aside0 (Kd.R k64 64 w' w.heap.size (fun _ => True) v14 (parseR l).f14) ∧ Below w.heap.size w w'
structure GB (w : World) (g : Nat) (W : World) : Prop where
 k : W.heap[g]? = some (.cells zeroH 31 (0, 0))
 b : Below w.heap.size w W
 lo : w.heap.size ≤ g
theorem GB.up {w W W' : World} {g : Nat} (p : GB w g W) (hb : Below W.heap.size W W') : GB w g W' := ⟨blk_below p.k hb, below_step p.b hb, p.lo⟩
theorem GB.drew {w W : World} {g : Nat} (p : GB w g W) : GB w g W.drew := ⟨p.k, below_drew p.b, p.lo⟩
theorem GB.fin {w W : World} {g : Nat} (p : GB w g W) (cs : Array Value) : Below w.heap.size w (W.setRow g cs) := pw_below_grown p.b (some g) p.b.size (grown_setRow W g cs) (fun k hk => by injection hk with hk; have := p.lo; omega)
theorem rpost_err {l : List Int} {n : Int} {w W : World} (h : parseH l = .err n) (hb : Below w.heap.size w W) : RPost l w (.returned (.tuple #[.agg zeroH, .int .i64 n])) W := by
 have h1 : parseN l = n := by unfold parseN; rw [h]
 have h2 : parseR l = z31 := by unfold parseR; rw [h]
 refine ⟨.slice none 0 0, zeroH, ⟨⟨by rw [h2]; rfl⟩⟩, by rw [h1], ⟨by rw [h2]; exact Kd.R_nil _ _ _ _ _⟩, hb⟩
theorem rpost_ok {l : List Int} {h : S31} {v v14 : Value} {cs : Array Value} {w W : World} {g g8 : Nat} {h8 : S31} (hp : parseH l = .ok h) (hd : Hdr h v14 cs) (p : HX w g8 g h8 v v14 h.f14 W) : RPost l w (.returned (.tuple #[.agg cs, .int .i64 0])) (W.setRow g cs) := by
 have h1 : parseN l = 0 := by unfold parseN; rw [hp]
 have h2 : parseR l = h := by unfold parseR; rw [hp]
 refine ⟨v14, cs, ⟨by rw [h2]; exact hd⟩, by rw [h1], ⟨by rw [h2]; exact Kd.R_mono (Kd.R_grown p.r (grown_setRow W g cs) (fun k hk e => hk.2 (by injection e))) (fun _ _ => trivial)⟩, pw_below_grown p.b (some g) p.b.size (grown_setRow W g cs) (fun k hk => by injection hk with hk; have := p.lo; omega)⟩
theorem HX.more {w W w2 : World} {g g8 : Nat} {h : S31} {v v14 v' : Value} {Ps Ps' : List S64} {cs : Array Value} (p : HX w g8 g h v v14 Ps W) (hb : Below W.heap.size W w2) (hr : Kd.R k64 64 w2 W.heap.size (fun _ => True) v' Ps') :
  HX w g8 g h v v' Ps' ((w2.alloc (.cells zeroH 31)).setRow w2.heap.size cs) ∧ ((w2.alloc (.cells zeroH 31)).setRow w2.heap.size cs).heap[w2.heap.size]? = some (.cells cs 31 (0, 0)) := by
 have hx := box_hdr w2 cs
 have hbb := below_step hb hx.2
 have l8 := blk_lt p.k0
 have lg := blk_lt p.k4
 refine ⟨⟨blk_below p.k0 hbb, blk_below p.k4 hbb, Kd.R_lower (Kd.R_below (Kd.R_mono (Kd.R_bound hr) (fun k hk => ⟨fun e => by have := hk.2.1; omega, fun e => by have := hk.2.1; omega⟩)) hx.2) p.b.size, below_step p.b hbb, p.lo⟩, hx.1⟩
theorem HX.row {w W : World} {g g8 : Nat} {h h' : S31} {v v' v14 : Value} {Ps : List S64} {cs : Array Value} (p : HX w g8 g h v v14 Ps W) (hd : Hdr h' v' cs) : HX w g8 g h' v' v14 Ps (W.setRow g8 cs) :=
 ⟨by rw [← hd.eq]; exact setRow_same p.k0, by rw [← p.k4]; exact (grown_setRow W g8 cs).block g (blk_lt p.k4) (fun e => p.lo.2.2 (by injection e with e; exact e.symm)), Kd.R_grown p.r (grown_setRow W g8 cs) (fun k hk e => hk.1 (by injection e)), pw_below_grown p.b (some g8) p.b.size (grown_setRow W g8 cs) (fun k hk => by injection hk with hk; have := p.lo; omega), p.lo⟩
theorem HX.gb {w W : World} {g g8 : Nat} {h : S31} {v v14 : Value} {Ps : List S64} (p : HX w g8 g h v v14 Ps W) : GB w g W := ⟨p.k4, p.b, p.lo.2.1⟩
theorem ref_cut (A : Option Addr) (c : Nat) (l : List Int) (w : World) (hr : Kd.C (Kd.int .u8) w A l.length l) (hl : l.length = 512) (hc : 512 ≤ c) (i wd : Nat) (a b : Int) (ha : a = (i : Int)) (hb : b = ((i + wd : Nat) : Int)) (hw : i + wd ≤ 512) :
  ∃ (A' : Option Addr) (n : Nat), (∀ W : World, (Instr.slice 22 (.slice A 512 c) (some (.int .i64 a)) (some (.int .i64 b)) none).run Tryz.prog W = .ok (.slice A' n (c - i)) W) ∧ ∀ W, Below w.heap.size w W → Calls Tryz.prog 36 #[.slice A' n (c - i)] W fun e w' => e = .returned (.string (txtF l i wd)) ∧ Below W.heap.size W w' := by
 subst ha
 subst hb
 obtain ⟨i5, hi5, _, hsz5, _⟩ := info_parts info5
 obtain ⟨A6, hcut6, hA6, hC6⟩ := print_mid_of (P := Tryz.prog) (Value.int .u8) 0 22 5 .i64 .i64 Tryz.underlying22 hi5 hsz5 A c l (i : Int) ((i + wd : Nat) : Int) (by omega) (by omega) (by omega) (by rw [hl]; exact hc)
 rw [Int.toNat_natCast, Int.toNat_natCast] at hcut6 hA6 hC6
 rw [hl] at hcut6
 refine ⟨A6, _, hcut6, fun W hB => ?_⟩
 obtain ⟨fl, hfl⟩ : ∃ fl, fl = (l.take (i + wd)).drop i := ⟨_, rfl⟩
 rw [← hfl] at hA6 hC6 ⊢
 have hlf : fl.length ≤ 4294967296 := by rw [hfl, List.length_drop, List.length_take]; omega
 obtain ⟨k, hk⟩ := RefCut_eq fl hlf
 have hk := hk k (Nat.le_refl _)
 have ht : txtF l i wd = strOfNums (cutF fl) := by rw [hfl]; rfl
 rw [ht]
 exact (mudlarkref02_Cut.calls k A6 (c - i) fl _ W (Kd.C_below (Kd.C_of_reads (h1 := fun _ => rfl) (hA6 _ (Kd.reads_of_C hr))) hB) hC6 hk).mono fun e w' ⟨he, hd⟩ => ⟨he, drawn_below hd⟩
theorem ref_cut0 (A : Option Addr) (c : Nat) (l : List Int) (w : World) (hr : Kd.C (Kd.int .u8) w A l.length l) (hl : l.length = 512) (hc : 512 ≤ c) :
  ∃ (n : Nat), (∀ W : World, (Instr.slice 22 (.slice A 512 c) none (some (.int .i64 100)) none).run Tryz.prog W = .ok (.slice A n c) W) ∧ ∀ W, Below w.heap.size w W → Calls Tryz.prog 36 #[.slice A n c] W fun e w' => e = .returned (.string (txtF l 0 100)) ∧ Below W.heap.size W w' := by
 obtain ⟨i5, hi5, _, hsz5, _⟩ := info_parts info5
 obtain ⟨hcut6, hA6, hC6⟩ := print_take_of (P := Tryz.prog) (Value.int .u8) 0 22 5 .i64 Tryz.underlying22 hi5 hsz5 A c l 100 (by decide) (by rw [hl]; decide) (by rw [hl]; exact hc)
 rw [hl] at hcut6
 refine ⟨_, hcut6, fun W hB => ?_⟩
 obtain ⟨fl, hfl⟩ : ∃ fl, fl = l.take (100 : Int).toNat := ⟨_, rfl⟩
 rw [← hfl] at hA6 hC6 ⊢
 have hlf : fl.length ≤ 4294967296 := by
  rw [hfl, List.length_take]
  have : min (100 : Int).toNat l.length ≤ l.length := Nat.min_le_right _ _
  omega
 obtain ⟨k, hk⟩ := RefCut_eq fl hlf
 have hk := hk k (Nat.le_refl _)
 have ht : txtF l 0 100 = strOfNums (cutF fl) := by rw [hfl]; rfl
 rw [ht]
 exact (mudlarkref02_Cut.calls k A c fl _ W (Kd.C_below (Kd.C_of_reads (h1 := fun _ => rfl) (hA6 _ (Kd.reads_of_C hr))) hB) hC6 hk).mono fun e w' ⟨he, hd⟩ => ⟨he, drawn_below hd⟩
theorem ref_right (A : Option Addr) (n c : Nat) (l : List Int) (w : World) (hr : Kd.C (Kd.int .u8) w A l.length l) (hl : l.length = n) (hc : n ≤ c) (hby : Bytes l) (hn : n ≤ 100000) :
  Calls Tryz.prog 33 #[.slice A n c] w fun e w' => e = .returned (.bool (rightF l)) ∧ Below w.heap.size w w' := by
 subst hl
 obtain ⟨k, hk⟩ := RefRight_eq l hby hn
 have hk := hk k (Nat.le_refl _)
 exact (mudlarkref05_Right.calls k A c l _ w hr hc hk).mono fun e w' ⟨he, hd⟩ => ⟨he, drawn_below hd⟩
theorem vals_cells {A : Option Addr} {w : World} {n : Nat} {l : List Int} {way : Int} (h : Kd.C (Kd.int .i64) w A n (valsL l way)) (hn : n = 7) : ∃ ad, A = some ad ∧ w.cell? ad = some (.int .i64 (valF l 100 8)) ∧ w.cell? ⟨ad.block, ad.off + 1, none⟩ = some (.int .i64 (valF l 108 8)) ∧ w.cell? ⟨ad.block, ad.off + 2, none⟩ = some (.int .i64 (valF l 116 8)) ∧ w.cell? ⟨ad.block, ad.off + 3, none⟩ = some (.int .i64 (valF l 124 12)) ∧ w.cell? ⟨ad.block, ad.off + 4, none⟩ = some (.int .i64 (valF l 136 12)) ∧ w.cell? ⟨ad.block, ad.off + 5, none⟩ = some (.int .i64 (if way = 0 then 0 else valF l 329 8)) ∧ w.cell? ⟨ad.block, ad.off + 6, none⟩ = some (.int .i64 (if way = 0 then 0 else valF l 337 8)) := by
 subst hn
 obtain ⟨ad, e, h0⟩ := Kd.at_int h 0 (by decide) (by decide)
 subst e
 have hx : ∀ i : Nat, i < 7 → w.cell? (ad.add i) = some (.int .i64 (rd (valsL l way) (i : Int))) := fun i hi => by
  obtain ⟨ad', e, h⟩ := Kd.at_int h (i : Int) (by omega) (by omega)
  injection e with e
  subst e
  exact h
 exact ⟨ad, rfl, hx 0 (by decide), hx 1 (by decide), hx 2 (by decide), hx 3 (by decide), hx 4 (by decide), hx 5 (by decide), hx 6 (by decide)⟩
set_option maxRecDepth 100000 in
set_option maxHeartbeats 8000000 in
theorem ref_parse (A : Option Addr) (n c : Nat) (l : List Int) (w : World) (hr : Kd.C (Kd.int .u8) w A l.length l) (hn : n = l.length) (hc : n ≤ c) (hby : Bytes l) :
  Calls Tryz.prog 15 #[.slice A n c] w (RPost l w) := by
 by_cases h5 : n = 512
 ·have hl : l.length = 512 := by omega
  subst h5
  have HRI := Aside0.mk (fun (W : World) (hB : Below w.heap.size w W) => ref_right A 512 c l W (Kd.C_below hr hB) hl hc hby (by omega))
  have HKI := Aside0.mk (fun (W : World) (hB : Below w.heap.size w W) => ref_kind A c l W (Kd.C_below hr hB) hl)
  have HKN := Aside0.mk (fun (W : World) => mudlarkref08_Known.calls (kindF l) _ W (refKnown_eq (kindF l)))
  have HWY := Aside0.mk (fun (W : World) (hB : Below w.heap.size w W) => ref_way A 512 c l W (Kd.C_below hr hB) hn hc)
  have HFI := Aside0.mk (fun (W : World) (hB : Below w.heap.size w W) => ref_fields A c l (wayF l).1 W (Kd.C_below hr hB) hl hc hby)
  have HHO := Aside0.mk (fun (h : S31) (W : World) (hB : Below w.heap.size w W) => ref_holes h (.slice none 0 0) rfl A c l W (Kd.C_below hr hB) hl hc hby)
  obtain ⟨n0, hcut0, hC0⟩ := ref_cut0 A c l w hr hl hc
  obtain ⟨A7, n7, hcut7, hC7⟩ := ref_cut A c l w hr hl hc 157 100 157 257 rfl rfl (by decide)
  obtain ⟨A9, n9, hcut9, hC9⟩ := ref_cut A c l w hr hl hc 265 32 265 297 rfl rfl (by decide)
  obtain ⟨Aa, na, hcuta, hCa⟩ := ref_cut A c l w hr hl hc 297 32 297 329 rfl rfl (by decide)
  obtain ⟨Ad, nd, hcutd, hCd⟩ := ref_cut A c l w hr hl hc 345 155 345 500 rfl rfl (by decide)
  have HC0 := Aside0.mk hC0
  have HC7 := Aside0.mk hC7
  have HC9 := Aside0.mk hC9
  have HCa := Aside0.mk hCa
  have HCd := Aside0.mk hCd
  have HWR := Aside0.mk (way_range l)
  have HP : Aside0 (parseH l = if rightF l = false then .err 30 else if knownB (kindF l) = false then .err 31 else if (wayF l).2 = false then .err 32 else if numsB l (wayF l).1 = false then .err 32 else if kindF l = 83 then (if (wayF l).1 = 2 then (if sparseB l = true then .ok (hdrF l (wayF l).1 (kindF l)) else .err 32) else .err 31) else .ok (hdrF l (wayF l).1 (kindF l))) := ⟨by unfold parseH; rw [if_neg (by omega)]⟩
  obtain ⟨kd, hkd⟩ : ∃ x, x = kindF l := ⟨_, rfl⟩
  obtain ⟨way, hway⟩ : ∃ x, x = (wayF l).1 := ⟨_, rfl⟩
  obtain ⟨wb, hwb⟩ : ∃ x, x = (wayF l).2 := ⟨_, rfl⟩
  rw [← hkd] at HKI HKN HP
  rw [← hway] at HFI HP HWR
  rw [← hwb] at HP HWR
  have HWY := Aside0.mk (show ∀ (W : World), Below w.heap.size w W → Calls Tryz.prog 17 #[.slice A 512 c] W fun e w' => e = .returned (.tuple #[.int .i64 way, .bool wb]) ∧ Below W.heap.size W w' from fun W hB => by rw [hway, hwb]; exact HWY.out W hB)
  obtain ⟨rb, hrb⟩ : ∃ x, x = rightF l := ⟨_, rfl⟩
  rw [← hrb] at HRI HP
  obtain ⟨kb, hkb⟩ : ∃ x, x = knownB kd := ⟨_, rfl⟩
  rw [← hkb] at HKN HP
  obtain ⟨nb, hnb⟩ : ∃ x, x = numsB l way := ⟨_, rfl⟩
  rw [← hnb] at HFI HP
  obtain ⟨sb, hsb⟩ : ∃ x, x = sparseB l := ⟨_, rfl⟩
  rw [← hsb] at HHO HP
  clear hr hn hl hC0 hC7 hC9 hCa hCd hkd hway hwb hrb hkb hnb hsb
  have HCC := Aside0.mk hc
  have HBY := Aside0.mk hby
  clear hc hby
  go_enter Tryz.func15, Tryz.ntmps15
  go_upto_region 3 with (fail)
  have hk1 := row2_alloc w zeroH 31
  have hb1 := below_alloc (Below.refl w.heap.size w) (.cells zeroH 31)
  change Code.wp _ _ _ _ (w.alloc (.cells zeroH 31))
  generalize w.alloc (.cells zeroH 31) = w1 at hk1 hb1 ⊢
  obtain ⟨g, hg⟩ : ∃ n, n = w.heap.size := ⟨_, rfl⟩
  have H1 : Aside0 (GB w g w1) := ⟨by rw [hg]; exact hk1, hb1, by omega⟩
  rw [← hg]
  clear hk1 hb1 hg
  go_upto_if 17 with (go_at_call 33; refine (HRI.out _ H1.out.b).mono ?_; rintro e w2 ⟨rfl, hb⟩; have H2 := Aside0.mk (H1.out.up hb); clear hb)
  clear H1 HRI
  cases rb with
  | false =>
   go_wp2_with (first | (refine wpList_buildTo rfl 31 #[] rfl (some 14) rfl zeroH (by kernel_rfl) ?_) | (refine wpList_store_rowTo rfl 31 _ _ rfl rfl g zeroH rfl rfl 31 zeroH H2.out.k (by kernel_rfl) (by kernel_rfl) (by kernel_rfl) ?_))
   refine bodyPost_ret (results_ct rfl _ _ g 31 zeroH (0, 0) _ rfl (setRow_same H2.out.k) Tryz.underlying31 rfl (by kernel_rfl)) rfl ?_
   exact rpost_err (n := 30) (by have := HP.out; simpa using this) (H2.out.fin zeroH)
  | true =>
  go_upto_if 22 with (first | (go_at_call 34; refine (HKI.out _ H2.out.b).mono ?_; rintro e w3 ⟨rfl, hb⟩; have H3 := Aside0.mk (H2.out.up hb); clear hb) | (go_at_call 9; refine (HKN.out _).mono ?_; rintro e w4 ⟨rfl, hd⟩; have H4 := Aside0.mk (H3.out.up (drawn_below hd)); clear hd))
  clear H2 H3 HKN
  cases kb with
  | false =>
   go_wp2_with (first | (refine wpList_buildTo rfl 31 #[] rfl (some 14) rfl zeroH (by kernel_rfl) ?_) | (refine wpList_store_rowTo rfl 31 _ _ rfl rfl g zeroH rfl rfl 31 zeroH H4.out.k (by kernel_rfl) (by kernel_rfl) (by kernel_rfl) ?_))
   refine bodyPost_ret (results_ct rfl _ _ g 31 zeroH (0, 0) _ rfl (setRow_same H4.out.k) Tryz.underlying31 rfl (by kernel_rfl)) rfl ?_
   exact rpost_err (n := 31) (by have := HP.out; simpa using this) (H4.out.fin zeroH)
  | true =>
  go_upto_region 9 with (first | (go_at_call 17; refine (HWY.out _ H4.out.b).mono ?_; rintro e w5 ⟨rfl, hb⟩; have H5 := Aside0.mk (H4.out.up hb); clear hb) | (go_at_call 35; refine (HFI.out _ H5.out.b).mono ?_; rintro e w6 ⟨v6, ok6, rfl, hq, hb⟩; have HQ := hq; clear hq; have H6 := Aside0.mk (H5.out.up hb); clear hb))
  have HEQ := HQ.out.1
  subst HEQ
  clear H4 HWY HFI
  cases wb with
  | false =>
   go_wp2_with (first | (refine wpList_buildTo rfl 31 #[] rfl (some 14) rfl zeroH (by kernel_rfl) ?_) | (refine wpList_store_rowTo rfl 31 _ _ rfl rfl g zeroH rfl rfl 31 zeroH H6.out.k (by kernel_rfl) (by kernel_rfl) (by kernel_rfl) ?_))
   refine bodyPost_ret (results_ct rfl _ _ g 31 zeroH (0, 0) _ rfl (setRow_same H6.out.k) Tryz.underlying31 rfl (by kernel_rfl)) rfl ?_
   exact rpost_err (n := 32) (by have := HP.out; simpa using this) (H6.out.fin zeroH)
  | true =>
  cases ok6 with
  | false =>
   go_wp2_with (first | (refine wpList_buildTo rfl 31 #[] rfl (some 14) rfl zeroH (by kernel_rfl) ?_) | (refine wpList_store_rowTo rfl 31 _ _ rfl rfl g zeroH rfl rfl 31 zeroH H6.out.k (by kernel_rfl) (by kernel_rfl) (by kernel_rfl) ?_))
   refine bodyPost_ret (results_ct rfl _ _ g 31 zeroH (0, 0) _ rfl (setRow_same H6.out.k) Tryz.underlying31 rfl (by kernel_rfl)) rfl ?_
   exact rpost_err (n := 32) (by have := HP.out; simpa using this) (H6.out.fin zeroH)
  | true =>
  have hR6 := HQ.out.2 rfl
  obtain ⟨A6, c6, rfl⟩ := Kd.R_slice hR6
  obtain ⟨ad, rfl, e0, e1, e2, e3, e4, e5, e6⟩ := vals_cells (Kd.R_reads' hR6).2.2 rfl
  have HE0 := Aside0.mk e0
  have HE1 := Aside0.mk e1
  have HE2 := Aside0.mk e2
  have HE3 := Aside0.mk e3
  have HE4 := Aside0.mk e4
  have HE5 := Aside0.mk e5
  have HE6 := Aside0.mk e6
  clear e0 e1 e2 e3 e4 e5 e6 hR6 HQ H5
  have HV7 : Aside0 ((valsL l way).length = 7) := ⟨rfl⟩
  generalize (valsL l way).length = m7 at HV7 ⊢
  obtain rfl : m7 = 7 := HV7.out
  have HHF : Aside0 (hdrF l way kd = ⟨txtF l 0 100, valF l 100 8, valF l 108 8, valF l 116 8, valF l 124 12, valF l 136 12, kd, txtF l 157 100, way, if way = 0 then ByteArray.empty else txtF l 265 32, if way = 0 then ByteArray.empty else txtF l 297 32, if way = 0 then 0 else valF l 329 8, if way = 0 then 0 else valF l 337 8, if way = 1 then txtF l 345 155 else ByteArray.empty, if kd = 83 then (partsR l 386 4).1 else [], if kd = 83 then rd l 482 != 0 else false, if kd = 83 then valF l 483 12 else 0⟩) := ⟨rfl⟩
  obtain ⟨x1, hx1⟩ : ∃ x, x = valF l 100 8 := ⟨_, rfl⟩
  obtain ⟨x2, hx2⟩ : ∃ x, x = valF l 108 8 := ⟨_, rfl⟩
  obtain ⟨x3, hx3⟩ : ∃ x, x = valF l 116 8 := ⟨_, rfl⟩
  obtain ⟨x4, hx4⟩ : ∃ x, x = valF l 124 12 := ⟨_, rfl⟩
  obtain ⟨x5, hx5⟩ : ∃ x, x = valF l 136 12 := ⟨_, rfl⟩
  obtain ⟨x11, hx11⟩ : ∃ x, x = if way = 0 then (0 : Int) else valF l 329 8 := ⟨_, rfl⟩
  obtain ⟨x12, hx12⟩ : ∃ x, x = if way = 0 then (0 : Int) else valF l 337 8 := ⟨_, rfl⟩
  obtain ⟨s0, hs0⟩ : ∃ x, x = txtF l 0 100 := ⟨_, rfl⟩
  obtain ⟨s7, hs7⟩ : ∃ x, x = txtF l 157 100 := ⟨_, rfl⟩
  obtain ⟨s9, hs9⟩ : ∃ x, x = txtF l 265 32 := ⟨_, rfl⟩
  obtain ⟨sa, hsa⟩ : ∃ x, x = txtF l 297 32 := ⟨_, rfl⟩
  obtain ⟨sd, hsd⟩ : ∃ x, x = txtF l 345 155 := ⟨_, rfl⟩
  rw [← hx1] at HE0 HHF
  rw [← hx2] at HE1 HHF
  rw [← hx3] at HE2 HHF
  rw [← hx4] at HE3 HHF
  rw [← hx5] at HE4 HHF
  rw [← hx11] at HE5 HHF
  rw [← hx12] at HE6 HHF
  rw [← hs0] at HC0 HHF
  rw [← hs7] at HC7 HHF
  rw [← hs9] at HC9 HHF
  rw [← hsa] at HCa HHF
  rw [← hsd] at HCd HHF
  clear hx1 hx2 hx3 hx4 hx5 hx11 hx12 hs0 hs7 hs9 hsa hsd
  go_upto_region 11 with (fail)
  go_cut [8] from 1 to 0 (fun v8 wx => ∃ (g8 : Nat), v8 = .pointer (some ⟨g8, 0, none⟩) ∧ Aside0 (HX w g8 g ⟨s0, x1, x2, x3, x4, x5, kd, s7, way, ByteArray.empty, ByteArray.empty, x11, x12, ByteArray.empty, [], false, 0⟩ (.slice none 0 0) (.slice none 0 0) [] wx))
  case first =>
   refine wp_region_float 31 8 (fun g => .pointer (some ⟨g, 0, none⟩)) (by kernel_rfl) (by kernel_rfl) (by kernel_rfl) rfl rfl rfl (t := 31) (zs := zeroH) ?_
   apply Exists.intro
   refine ⟨?_, fun a w _ => by kernel_rfl, ?_⟩
   ·intro W hW
    have c0 : ∀ p : Reach W, p.w.cell? ad = some (.int .i64 x1) := fun p => pw_cell_below (below_step hW p.below) HE0.out
    have c1 : ∀ p : Reach W, p.w.cell? ⟨ad.block, ad.off + 1, none⟩ = some (.int .i64 x2) := fun p => pw_cell_below (below_step hW p.below) HE1.out
    have c2 : ∀ p : Reach W, p.w.cell? ⟨ad.block, ad.off + 2, none⟩ = some (.int .i64 x3) := fun p => pw_cell_below (below_step hW p.below) HE2.out
    have c3 : ∀ p : Reach W, p.w.cell? ⟨ad.block, ad.off + 3, none⟩ = some (.int .i64 x4) := fun p => pw_cell_below (below_step hW p.below) HE3.out
    have c4 : ∀ p : Reach W, p.w.cell? ⟨ad.block, ad.off + 4, none⟩ = some (.int .i64 x5) := fun p => pw_cell_below (below_step hW p.below) HE4.out
    have c5 : ∀ p : Reach W, p.w.cell? ⟨ad.block, ad.off + 5, none⟩ = some (.int .i64 x11) := fun p => pw_cell_below (below_step hW p.below) HE5.out
    have c6 : ∀ p : Reach W, p.w.cell? ⟨ad.block, ad.off + 6, none⟩ = some (.int .i64 x12) := fun p => pw_cell_below (below_step hW p.below) HE6.out
    simp only [List.take_succ_cons, List.take_zero]
    repeat (go_big_quiet_step ((rename_i p; apply Calls.reach_of; first
     | (go_at_call 34; (with_reducible refine (HKI.out _ (below_step H6.out.b (below_step hW p.below))).mono ?_); rintro e w7 ⟨rfl, hd⟩; exact ⟨rfl, hd⟩)
     | (go_at_call 36; (with_reducible refine (HC0.out _ (below_step H6.out.b (below_step hW p.below))).mono ?_); rintro e w7 ⟨rfl, hd⟩; exact ⟨rfl, hd⟩)
     | (go_at_call 36; (with_reducible refine (HC7.out _ (below_step H6.out.b (below_step hW p.below))).mono ?_); rintro e w7 ⟨rfl, hd⟩; exact ⟨rfl, hd⟩))))
    exact wpQuiet_nil rfl
   ·intro W g8 hW hg8 hbk
    simp only [List.drop_succ_cons, List.drop_zero]
    refine wpList_store_rowTo rfl 31 _ _ rfl rfl g8 (cells25 ⟨s0, x1, x2, x3, x4, x5, kd, s7, way, ByteArray.empty, ByteArray.empty, x11, x12, ByteArray.empty, [], false, 0⟩ (.slice none 0 0)) rfl rfl 31 zeroH hbk (by kernel_rfl) rfl (Hdr.one ⟨rfl⟩ rfl) ?_
    have H7q : HX w g8 g z31 (.slice none 0 0) (.slice none 0 0) [] W := ⟨hbk, blk_below H6.out.k hW, Kd.R_nil _ _ _ _ _, below_step H6.out.b hW, Nat.le_trans H6.out.b.size hg8, H6.out.lo, fun e => by have := blk_lt H6.out.k; omega⟩
    have H7 := Aside0.mk (H7q.row (h' := ⟨s0, x1, x2, x3, x4, x5, kd, s7, way, ByteArray.empty, ByteArray.empty, x11, x12, ByteArray.empty, [], false, 0⟩) (v' := .slice none 0 0) ⟨rfl⟩)
    clear H7q hbk hg8 hW
    go_wp2
    go_meet
    exact ⟨g8, rfl, H7⟩
  case rest =>
   obtain ⟨g8, rfl, H7⟩ := hcut
   clear H6 HE0 HE1 HE2 HE3 HE4 HE5 HE6 hcut0 hcut7 HC0 HC7
   have HWW := Aside0.mk (HWR.out rfl)
   clear HWR
   go_upto_region 12 with (fail)
   go_cut [74] from 1 to 0 (fun v74 wx => ∃ b : Bool, v74 = .bool b ∧ Aside0 (b = decide (0 < way)) ∧ wx = wc)
   case first =>
    go_wp2
    go_meet
    exact ⟨_, rfl, ⟨rfl⟩, rfl⟩
   case rest =>
   obtain ⟨b74, rfl, HB74, rfl⟩ := hcut
   go_upto_if 74 with (fail)
   go_cut [74] from 1 to 0 (fun v74 wx => Aside0 (HX w g8 g ⟨s0, x1, x2, x3, x4, x5, kd, s7, way, if b74 = true then s9 else ByteArray.empty, if b74 = true then sa else ByteArray.empty, x11, x12, ByteArray.empty, [], false, 0⟩ (.slice none 0 0) (.slice none 0 0) [] wx))
   case first =>
    clear HB74
    cases b74 with
    | false =>
     go_wp2
     go_meet
     exact H7
    | true =>
     go_upto_region 14 with (first | (go_at_call 36; (with_reducible refine (HC9.out _ H7.out.b).mono ?_); rintro e w8 ⟨rfl, hd⟩; have H8 := Aside0.mk (H7.out.up hd); clear hd; have c9 : w8.cell? ⟨g8, 9, none⟩ = some (.string ByteArray.empty) := (blk_cell H8.out.k0 9).trans rfl; have y9 := blk_frozen H8.out.k0 9))
     have H9 := Aside0.mk (H8.out.set (h' := ⟨s0, x1, x2, x3, x4, x5, kd, s7, way, s9, ByteArray.empty, x11, x12, ByteArray.empty, [], false, 0⟩) (v' := .slice none 0 0) 9 (.string s9) rfl)
     generalize World.setCell _ _ _ = w9 at H9 ⊢
     clear H7 H8 c9 y9 hcut9 HC9
     go_upto_region 15 with (first | (go_at_call 36; (with_reducible refine (HCa.out _ H9.out.b).mono ?_); rintro e wa ⟨rfl, hd⟩; have Ha := Aside0.mk (H9.out.up hd); clear hd; have ca : wa.cell? ⟨g8, 10, none⟩ = some (.string ByteArray.empty) := (blk_cell Ha.out.k0 10).trans rfl; have ya := blk_frozen Ha.out.k0 10))
     go_meet
     exact ⟨Ha.out.set (h' := ⟨s0, x1, x2, x3, x4, x5, kd, s7, way, s9, sa, x11, x12, ByteArray.empty, [], false, 0⟩) (v' := .slice none 0 0) 10 (.string sa) rfl⟩
   case rest =>
   have H8 := hcut
   clear hcut H7 hcut9 hcuta HC9 HCa
   go_upto_region 15 with (fail)
   go_cut [84] from 1 to 0 (fun v84 wx => ∃ b : Bool, v84 = .bool b ∧ Aside0 (b = (way == 1)) ∧ wx = wc)
   case first =>
    go_wp2
    go_meet
    exact ⟨_, rfl, ⟨rfl⟩, rfl⟩
   case rest =>
   obtain ⟨b84, rfl, HB84, rfl⟩ := hcut
   go_upto_if 84 with (fail)
   go_cut [84] from 1 to 0 (fun v84 wx => Aside0 (HX w g8 g ⟨s0, x1, x2, x3, x4, x5, kd, s7, way, if b74 = true then s9 else ByteArray.empty, if b74 = true then sa else ByteArray.empty, x11, x12, if b84 = true then sd else ByteArray.empty, [], false, 0⟩ (.slice none 0 0) (.slice none 0 0) [] wx))
   case first =>
    clear HB84
    cases b84 with
    | false =>
     go_wp2
     go_meet
     exact H8
    | true =>
     go_wp2_with (first | (go_at_call 36; (with_reducible refine (HCd.out _ H8.out.b).mono ?_); rintro e w9 ⟨rfl, hd⟩; have H9 := Aside0.mk (H8.out.up hd); clear hd; have c13 : w9.cell? ⟨g8, 13, none⟩ = some (.string ByteArray.empty) := (blk_cell H9.out.k0 13).trans rfl; have y13 := blk_frozen H9.out.k0 13))
     go_meet
     exact ⟨H9.out.set (v' := .slice none 0 0) 13 (.string sd) rfl⟩
   case rest =>
   have H9 := hcut
   clear hcut H8 hcutd HCd
   obtain ⟨h9, hh9⟩ : ∃ h : S31, h = ⟨s0, x1, x2, x3, x4, x5, kd, s7, way, if b74 = true then s9 else ByteArray.empty, if b74 = true then sa else ByteArray.empty, x11, x12, if b84 = true then sd else ByteArray.empty, [], false, 0⟩ := ⟨_, rfl⟩
   have H6K : Aside0 (h9.f6 = kd) := ⟨by rw [hh9]⟩
   have HHD : Aside0 (hdrF l way kd = { h9 with f14 := if kd = 83 then (partsR l 386 4).1 else [], f15 := if kd = 83 then rd l 482 != 0 else false, f16 := if kd = 83 then valF l 483 12 else 0 }) := ⟨by
    rw [HHF.out, hh9, HB74.out, HB84.out]
    rcases HWW.out with h | h | h
    ·subst h; rfl
    ·subst h; rfl
    ·subst h; rfl⟩
   have H14 : Aside0 (h9.f14 = [] ∧ h9.f15 = false ∧ h9.f16 = 0) := ⟨by rw [hh9]; exact ⟨rfl, rfl, rfl⟩⟩
   rw [← hh9] at H9
   clear hh9 HHF HB74 HB84
   have c6 : wc.cell? ⟨g8, 6, none⟩ = some (.int .u8 kd) := by rw [← H6K.out]; exact (blk_cell H9.out.k0 6).trans rfl
   obtain ⟨cs9, hcs9⟩ : ∃ c, c = cells25 h9 (.slice none 0 0) := ⟨_, rfl⟩
   have HD9 := Aside0.mk (show Hdr h9 (.slice none 0 0) cs9 from ⟨hcs9⟩)
   have HK9 := Aside0.mk (show wc.heap[g8]? = some (.cells cs9 31 (0, 0)) by rw [hcs9]; exact H9.out.k0)
   have HHO := Aside0.mk (HHO.out h9 wc H9.out.b)
   rw [← hcs9] at HHO
   clear hcs9
   by_cases hk : kd = 83
   ·have ek : (kd == 83) = true := beq_iff_eq.2 hk
    by_cases hw2 : way = 2
    ·have ew : (way != 2) = false := by rw [hw2]; rfl
     have HPQ : Aside0 (parseH l = if sb = true then .ok (holesH h9 l) else .err 32) := ⟨by
      have := HP.out
      rw [if_neg (by decide), if_neg (by decide), if_neg (by decide), if_neg (by decide), if_pos hk, if_pos hw2, HHD.out, if_pos hk, if_pos hk, if_pos hk] at this
      exact this⟩
     clear HP hk hw2
     go_upto_region 21 with (first | (refine wpList_load_row rfl 31 _ rfl g8 rfl 31 cs9 (0, 0) _ HK9.out Tryz.underlying31 rfl (by rw [HD9.out.size]; kernel_rfl) ?_) | (go_at_call 37; refine HHO.out.mono ?_; rintro e wd ⟨v14, ct, HCT, rfl, HRd, hbd⟩; have HBd := Aside0.mk hbd; clear hbd; have HV := Aside0.mk (Kd.R_val HRd.out).2) | (refine wpList_store_rowTo rfl 31 _ _ rfl rfl wd.heap.size ct rfl rfl 31 zeroH (row2_alloc wd zeroH 31) (by rw [HCT.out.size]; kernel_rfl) (by rw [HCT.out.size]; rfl) (HCT.out.one HV.out) ?_))
     have hm := H9.out.more (cs := ct) HBd.out HRd.out
     change Code.wp _ _ _ _ ((wd.alloc (.cells zeroH 31)).setRow wd.heap.size ct)
     generalize (wd.alloc (.cells zeroH 31)).setRow wd.heap.size ct = we at hm ⊢
     generalize wd.heap.size = g9 at hm ⊢
     have He := Aside0.mk hm.1
     have HKe := Aside0.mk hm.2
     clear hm HBd HRd H9 HK9 HHO c6
     cases sb with
     | false =>
      have HP : Aside0 (parseH l = .err 32) := ⟨by have := HPQ.out; simpa using this⟩
      have HGE := Aside0.mk He.out.gb
      go_wp2_with (first | (refine wpList_buildTo rfl 31 #[] rfl (some 14) rfl zeroH (by kernel_rfl) ?_) | (refine wpList_store_rowTo rfl 31 _ _ rfl rfl g zeroH rfl rfl 31 zeroH HGE.out.k (by kernel_rfl) (by kernel_rfl) (by kernel_rfl) ?_))
      refine bodyPost_ret (results_ct rfl _ _ g 31 zeroH (0, 0) _ rfl (setRow_same HGE.out.k) Tryz.underlying31 rfl (by kernel_rfl)) rfl ?_
      exact rpost_err (n := 32) (by have := HP.out; simpa using this) (HGE.out.fin zeroH)
     | true =>
      have HPP : Aside0 (parseH l = .ok (holesH h9 l)) := ⟨by have := HPQ.out; simpa using this⟩
      go_upto_region 24 with (first | (refine wpList_load_row rfl 31 _ rfl g9 rfl 31 ct (0, 0) _ HKe.out Tryz.underlying31 rfl (by rw [HCT.out.size]; kernel_rfl) ?_) | (refine wpList_store_rowTo rfl 31 _ _ rfl rfl g8 ct rfl rfl 31 (cells25 h9 (.slice none 0 0)) He.out.k0 (by rw [HCT.out.size]; kernel_rfl) (by rw [HCT.out.size]; rfl) (HCT.out.one HV.out) ?_))
      have HX3 := Aside0.mk (He.out.row HCT.out)
      have HK8 := Aside0.mk (setRow_same (cells := ct) He.out.k0)
      generalize World.setRow _ _ _ = wf at HX3 HK8 ⊢
      have HD2 := HCT
      generalize ct = cs2 at HD2 HK8 ⊢
      clear He HKe HCT HPQ
      go_wp2_with (first | (refine wpList_load_row rfl 31 _ rfl g8 rfl 31 cs2 (0, 0) _ HK8.out Tryz.underlying31 rfl (by rw [HD2.out.size]; kernel_rfl) ?_) | (refine wpList_store_rowTo rfl 31 _ _ rfl rfl g cs2 rfl rfl 31 zeroH HX3.out.k4 (by rw [HD2.out.size]; kernel_rfl) (by rw [HD2.out.size]; rfl) (HD2.out.one HV.out) ?_))
      refine bodyPost_ret (results_ct rfl _ _ g 31 cs2 (0, 0) _ rfl (setRow_same HX3.out.k4) Tryz.underlying31 rfl (by rw [HD2.out.size]; kernel_rfl)) rfl ?_
      exact rpost_ok HPP.out HD2.out HX3.out
    ·have ew : (way != 2) = true := bne_iff_ne.2 hw2
     have HP : Aside0 (parseH l = .err 31) := ⟨by
      have := HP.out
      rw [if_neg (by decide), if_neg (by decide), if_neg (by decide), if_neg (by decide), if_pos hk, if_neg hw2] at this
      exact this⟩
     have HGE := Aside0.mk H9.out.gb
     clear hk hw2
     go_wp2_with (first | (refine wpList_buildTo rfl 31 #[] rfl (some 14) rfl zeroH (by kernel_rfl) ?_) | (refine wpList_store_rowTo rfl 31 _ _ rfl rfl g zeroH rfl rfl 31 zeroH HGE.out.k (by kernel_rfl) (by kernel_rfl) (by kernel_rfl) ?_))
     refine bodyPost_ret (results_ct rfl _ _ g 31 zeroH (0, 0) _ rfl (setRow_same HGE.out.k) Tryz.underlying31 rfl (by kernel_rfl)) rfl ?_
     exact rpost_err (n := 31) (by have := HP.out; simpa using this) (HGE.out.fin zeroH)
   ·have ek : (kd == 83) = false := beq_eq_false_iff_ne.2 hk
    have HPP : Aside0 (parseH l = .ok h9) := ⟨by
     have := HP.out
     rw [if_neg (by decide), if_neg (by decide), if_neg (by decide), if_neg (by decide), if_neg hk, HHD.out, if_neg hk, if_neg hk, if_neg hk] at this
     rw [this, ← H14.out.1, ← H14.out.2.1, ← H14.out.2.2]⟩
    have HX3 : Aside0 (HX w g8 g h9 (.slice none 0 0) (.slice none 0 0) h9.f14 wc) := ⟨by rw [H14.out.1]; exact H9.out⟩
    have HV : Aside0 ((Value.slice none 0 0).oneCell' = true) := ⟨rfl⟩
    have HD2 := HD9
    have HK8 := HK9
    generalize cs9 = cs2 at HD2 HK8 ⊢
    clear hk HP H9 HD9 HK9 HHO
    go_wp2_with (first | (refine wpList_load_row rfl 31 _ rfl g8 rfl 31 cs2 (0, 0) _ HK8.out Tryz.underlying31 rfl (by rw [HD2.out.size]; kernel_rfl) ?_) | (refine wpList_store_rowTo rfl 31 _ _ rfl rfl g cs2 rfl rfl 31 zeroH HX3.out.k4 (by rw [HD2.out.size]; kernel_rfl) (by rw [HD2.out.size]; rfl) (HD2.out.one HV.out) ?_))
    refine bodyPost_ret (results_ct rfl _ _ g 31 cs2 (0, 0) _ rfl (setRow_same HX3.out.k4) Tryz.underlying31 rfl (by rw [HD2.out.size]; kernel_rfl)) rfl ?_
    exact rpost_ok HPP.out HD2.out HX3.out
 ·have hP21 : parseH l = .err 21 := by unfold parseH; rw [if_pos (by omega)]
  have n0 : ((n : Int) != 512) = true := bne_iff_ne.2 (by omega)
  have HP := Aside0.mk hP21
  clear h5 hr hn hc hby hP21
  go_enter Tryz.func15, Tryz.ntmps15
  go_upto_region 1 with (fail)
  have hk1 := row2_alloc w zeroH 31
  have hb1 := below_alloc (Below.refl w.heap.size w) (.cells zeroH 31)
  change Code.wp _ _ _ _ (w.alloc (.cells zeroH 31))
  generalize w.alloc (.cells zeroH 31) = w1 at hk1 hb1 ⊢
  obtain ⟨g, hg⟩ : ∃ n, n = w.heap.size := ⟨_, rfl⟩
  have H1 : Aside0 (GB w g w1) := ⟨by rw [hg]; exact hk1, hb1, by omega⟩
  rw [← hg]
  clear hk1 hb1 hg
  go_wp2_with (first | (refine wpList_buildTo rfl 31 #[] rfl (some 14) rfl zeroH (by kernel_rfl) ?_) | (refine wpList_store_rowTo rfl 31 _ _ rfl rfl g zeroH rfl rfl 31 zeroH H1.out.k (by kernel_rfl) (by kernel_rfl) (by kernel_rfl) ?_))
  refine bodyPost_ret (results_ct rfl _ _ g 31 zeroH (0, 0) _ rfl (setRow_same H1.out.k) Tryz.underlying31 rfl (by kernel_rfl)) rfl ?_
  exact rpost_err (n := 21) (by have := HP.out; simpa using this) (H1.out.fin zeroH)
end Go.Proofs.YtkfcfbggojmfkaaGreatDoor.P
end

section
namespace Go.Proofs.YtkfcfbggojmfkaaGreatDoor.P
open Go Go.RowKit Go.Proofs.YtkfcfbggojmfkaaGreatDoorW.PrintWords Go.Proofs.YtkfcfbggojmfkaaGreatDoorW.PrintLast Go.Proofs.YtkfcfbggojmfkaaGreatDoorW.PrintMore
set_option linter.unusedVariables false
set_option linter.unusedSimpArgs false

attribute [local go_sem high] eqA64
set_option maxRecDepth 100000 in
set_option maxHeartbeats 8000000 in
theorem Same_refl (f0 : ByteArray) (f1 f2 f3 f4 f5 f6 : Int) (f7 : ByteArray) (f8 : Int) (f9 f10 : ByteArray) (f11 f12 : Int) (f13 : ByteArray) (f14 : List S64) (f15 : Bool) (f16 : Int) (n : Nat) (A B : Option Addr) (ca cb : Nat) (w : World) (cs ct : Array Value) (hA : Kd.C k64 w A f14.length f14) (hB : Kd.C k64 w B f14.length f14) (hn : f14.length = n) (hca : n ≤ ca) (hcb : n ≤ cb)
  (hs : Hdr (⟨f0, f1, f2, f3, f4, f5, f6, f7, f8, f9, f10, f11, f12, f13, f14, f15, f16⟩ : S31) (.slice A n ca) cs) (ht : Hdr (⟨f0, f1, f2, f3, f4, f5, f6, f7, f8, f9, f10, f11, f12, f13, f14, f15, f16⟩ : S31) (.slice B n cb) ct) :
  Calls Tryz.prog 18 #[.agg cs, .agg ct] w fun e w' => e = .returned (.bool true) ∧ Below w.heap.size w w' := by
 have HA := Aside0.mk hA
 have HBB := Aside0.mk hB
 have HN := Aside0.mk hn
 have HS := Aside0.mk hs
 have HS2 := Aside0.mk ht
 clear hA hB hs ht
 go_enter Tryz.func18, Tryz.ntmps18
 go_upto_region 1 with (fail)
 have hb1 := row2_alloc w cs 31
 have hb2 := blk_below hb1 (below_alloc (Below.refl _ (w.alloc (.cells cs 31))) (.cells ct 31))
 have hb3 := row2_alloc (w.alloc (.cells cs 31)) ct 31
 have hsz : (w.alloc (.cells cs 31)).heap.size = w.heap.size + 1 := by simp [go_sem]
 rw [hsz] at hb3
 have hbw := below_alloc (below_alloc (Below.refl w.heap.size w) (.cells cs 31)) (.cells ct 31)
 change Code.wp _ _ _ _ ((w.alloc (.cells cs 31)).alloc (.cells ct 31))
 generalize (w.alloc (.cells cs 31)).alloc (.cells ct 31) = W at hb2 hb3 hbw ⊢
 have HBW := Aside0.mk hbw
 have a0 : W.cell? ⟨w.heap.size, 0, none⟩ = some (.string f0) := (blk_cell hb2 0).trans (by rw [HS.out.eq]; rfl)
 have b0 : W.cell? ⟨w.heap.size + 1, 0, none⟩ = some (.string f0) := (blk_cell hb3 0).trans (by rw [HS2.out.eq]; rfl)
 have a1 : W.cell? ⟨w.heap.size, 1, none⟩ = some (.int .i64 f1) := (blk_cell hb2 1).trans (by rw [HS.out.eq]; rfl)
 have b1 : W.cell? ⟨w.heap.size + 1, 1, none⟩ = some (.int .i64 f1) := (blk_cell hb3 1).trans (by rw [HS2.out.eq]; rfl)
 have a2 : W.cell? ⟨w.heap.size, 2, none⟩ = some (.int .i64 f2) := (blk_cell hb2 2).trans (by rw [HS.out.eq]; rfl)
 have b2 : W.cell? ⟨w.heap.size + 1, 2, none⟩ = some (.int .i64 f2) := (blk_cell hb3 2).trans (by rw [HS2.out.eq]; rfl)
 have a3 : W.cell? ⟨w.heap.size, 3, none⟩ = some (.int .i64 f3) := (blk_cell hb2 3).trans (by rw [HS.out.eq]; rfl)
 have b3 : W.cell? ⟨w.heap.size + 1, 3, none⟩ = some (.int .i64 f3) := (blk_cell hb3 3).trans (by rw [HS2.out.eq]; rfl)
 have a4 : W.cell? ⟨w.heap.size, 4, none⟩ = some (.int .i64 f4) := (blk_cell hb2 4).trans (by rw [HS.out.eq]; rfl)
 have b4 : W.cell? ⟨w.heap.size + 1, 4, none⟩ = some (.int .i64 f4) := (blk_cell hb3 4).trans (by rw [HS2.out.eq]; rfl)
 have a5 : W.cell? ⟨w.heap.size, 5, none⟩ = some (.int .i64 f5) := (blk_cell hb2 5).trans (by rw [HS.out.eq]; rfl)
 have b5 : W.cell? ⟨w.heap.size + 1, 5, none⟩ = some (.int .i64 f5) := (blk_cell hb3 5).trans (by rw [HS2.out.eq]; rfl)
 have a6 : W.cell? ⟨w.heap.size, 6, none⟩ = some (.int .u8 f6) := (blk_cell hb2 6).trans (by rw [HS.out.eq]; rfl)
 have b6 : W.cell? ⟨w.heap.size + 1, 6, none⟩ = some (.int .u8 f6) := (blk_cell hb3 6).trans (by rw [HS2.out.eq]; rfl)
 have a7 : W.cell? ⟨w.heap.size, 7, none⟩ = some (.string f7) := (blk_cell hb2 7).trans (by rw [HS.out.eq]; rfl)
 have b7 : W.cell? ⟨w.heap.size + 1, 7, none⟩ = some (.string f7) := (blk_cell hb3 7).trans (by rw [HS2.out.eq]; rfl)
 have a8 : W.cell? ⟨w.heap.size, 8, none⟩ = some (.int .i64 f8) := (blk_cell hb2 8).trans (by rw [HS.out.eq]; rfl)
 have b8 : W.cell? ⟨w.heap.size + 1, 8, none⟩ = some (.int .i64 f8) := (blk_cell hb3 8).trans (by rw [HS2.out.eq]; rfl)
 have a9 : W.cell? ⟨w.heap.size, 9, none⟩ = some (.string f9) := (blk_cell hb2 9).trans (by rw [HS.out.eq]; rfl)
 have b9 : W.cell? ⟨w.heap.size + 1, 9, none⟩ = some (.string f9) := (blk_cell hb3 9).trans (by rw [HS2.out.eq]; rfl)
 have a10 : W.cell? ⟨w.heap.size, 10, none⟩ = some (.string f10) := (blk_cell hb2 10).trans (by rw [HS.out.eq]; rfl)
 have b10 : W.cell? ⟨w.heap.size + 1, 10, none⟩ = some (.string f10) := (blk_cell hb3 10).trans (by rw [HS2.out.eq]; rfl)
 have a11 : W.cell? ⟨w.heap.size, 11, none⟩ = some (.int .i64 f11) := (blk_cell hb2 11).trans (by rw [HS.out.eq]; rfl)
 have b11 : W.cell? ⟨w.heap.size + 1, 11, none⟩ = some (.int .i64 f11) := (blk_cell hb3 11).trans (by rw [HS2.out.eq]; rfl)
 have a12 : W.cell? ⟨w.heap.size, 12, none⟩ = some (.int .i64 f12) := (blk_cell hb2 12).trans (by rw [HS.out.eq]; rfl)
 have b12 : W.cell? ⟨w.heap.size + 1, 12, none⟩ = some (.int .i64 f12) := (blk_cell hb3 12).trans (by rw [HS2.out.eq]; rfl)
 have a13 : W.cell? ⟨w.heap.size, 13, none⟩ = some (.string f13) := (blk_cell hb2 13).trans (by rw [HS.out.eq]; rfl)
 have b13 : W.cell? ⟨w.heap.size + 1, 13, none⟩ = some (.string f13) := (blk_cell hb3 13).trans (by rw [HS2.out.eq]; rfl)
 have a14 : W.cell? ⟨w.heap.size, 14, none⟩ = some (.slice A n ca) := (blk_cell hb2 14).trans (by rw [HS.out.eq]; rfl)
 have b14 : W.cell? ⟨w.heap.size + 1, 14, none⟩ = some (.slice B n cb) := (blk_cell hb3 14).trans (by rw [HS2.out.eq]; rfl)
 have a15 : W.cell? ⟨w.heap.size, 15, none⟩ = some (.bool f15) := (blk_cell hb2 15).trans (by rw [HS.out.eq]; rfl)
 have b15 : W.cell? ⟨w.heap.size + 1, 15, none⟩ = some (.bool f15) := (blk_cell hb3 15).trans (by rw [HS2.out.eq]; rfl)
 have a16 : W.cell? ⟨w.heap.size, 16, none⟩ = some (.int .i64 f16) := (blk_cell hb2 16).trans (by rw [HS.out.eq]; rfl)
 have b16 : W.cell? ⟨w.heap.size + 1, 16, none⟩ = some (.int .i64 f16) := (blk_cell hb3 16).trans (by rw [HS2.out.eq]; rfl)
 have e1 : (f1 == f1) = true := beq_self_eq_true _
 have e2 : (f2 == f2) = true := beq_self_eq_true _
 have e3 : (f3 == f3) = true := beq_self_eq_true _
 have e4 : (f4 == f4) = true := beq_self_eq_true _
 have e5 : (f5 == f5) = true := beq_self_eq_true _
 have e6 : (f6 == f6) = true := beq_self_eq_true _
 have e8 : (f8 == f8) = true := beq_self_eq_true _
 have e11 : (f11 == f11) = true := beq_self_eq_true _
 have e12 : (f12 == f12) = true := beq_self_eq_true _
 have e15 : (f15 == f15) = true := beq_self_eq_true _
 have e16 : (f16 == f16) = true := beq_self_eq_true _
 have en : ((n : Int) != (n : Int)) = false := bne_self_eq_false _
 clear hb1 hb2 hb3 hbw hsz
 go_wp2
 go_loopg [5] n (fun kq v5 wx => ∃ (i m : Nat), v5 = .int .i64 (i : Int) ∧ wx = W.drewN m ∧ Aside0 (i + kq = n))
 case atStart => exact ⟨0, 0, rfl, rfl, ⟨Nat.zero_add _⟩⟩
 case round =>
  obtain ⟨i, m, rfl, rfl, HI⟩ := hrel
  have hmx : n ≤ 9223372036854775807 := by have := HA.out.2.1; have := HN.out; omega
  by_cases hlt : i < n
  ·have q0 : ((i : Int) < (n : Int)) = True := eq_true (by omega)
   have q1 : (i < n) = True := eq_true hlt
   have q2 : decide ((i : Int) < (n : Int)) = true := decide_eq_true (by omega)
   obtain ⟨ad, hAe, hx0, hx1⟩ := at_T64 HA.out (i : Int) (by omega) (by rw [HN.out]; omega)
   obtain ⟨bd, hBe, hy0, hy1⟩ := at_T64 HBB.out (i : Int) (by omega) (by rw [HN.out]; omega)
   subst hAe
   subst hBe
   obtain ⟨pp, hpp⟩ : ∃ p, p = rd_T64 f14 (i : Int) := ⟨_, rfl⟩
   rw [← hpp] at hx0 hx1 hy0 hy1
   rw [Int.toNat_natCast] at hx0 hx1 hy0 hy1
   replace hx0 := pw_cell_below HBW.out hx0
   replace hx1 := pw_cell_below HBW.out hx1
   replace hy0 := pw_cell_below HBW.out hy0
   replace hy1 := pw_cell_below HBW.out hy1
   have e20 : (pp.f0 == pp.f0) = true := beq_self_eq_true _
   have e21 : (pp.f1 == pp.f1) = true := beq_self_eq_true _
   go_wp2
   go_quiet (fail)
   go_wp2
   have hi1 := HI.out
   obtain ⟨k1, rfl⟩ : ∃ k1, gk = k1 + 1 := ⟨gk - 1, by omega⟩
   go_roundg k1
   case measure => omega
   case rel => exact ⟨i + 1, m + nq, by go_num, rfl, ⟨by omega⟩⟩
  ·have q2 : decide ((i : Int) < (n : Int)) = false := decide_eq_false (by omega)
   go_wp2
   go_ret
   exact ⟨rfl, pw_below_drewN HBW.out m⟩
end Go.Proofs.YtkfcfbggojmfkaaGreatDoor.P
end

section
namespace Go.Proofs.YtkfcfbggojmfkaaGreatDoor.P
open Go Go.RowKit Go.Proofs.YtkfcfbggojmfkaaGreatDoorW.PrintWords Go.Proofs.YtkfcfbggojmfkaaGreatDoorW.PrintLast Go.Proofs.YtkfcfbggojmfkaaGreatDoorW.PrintMore
set_option linter.unusedVariables false
set_option linter.unusedSimpArgs false

def mudlarklaw08_HeadParses.Pure : Prop := True
theorem Same_hdr {h : S31} {A B : Option Addr} {n ca cb : Nat} {w : World} {cs ct : Array Value} (hA : Kd.C k64 w A h.f14.length h.f14) (hB : Kd.C k64 w B h.f14.length h.f14) (hn : h.f14.length = n) (hca : n ≤ ca) (hcb : n ≤ cb) (hs : Hdr h (.slice A n ca) cs) (ht : Hdr h (.slice B n cb) ct) :
  Calls Tryz.prog 18 #[.agg cs, .agg ct] w fun e w' => e = .returned (.bool true) ∧ Below w.heap.size w w' := by
 obtain ⟨f0, f1, f2, f3, f4, f5, f6, f7, f8, f9, f10, f11, f12, f13, f14, f15, f16⟩ := h
 exact Same_refl f0 f1 f2 f3 f4 f5 f6 f7 f8 f9 f10 f11 f12 f13 f14 f15 f16 n A B ca cb w cs ct hA hB hn hca hcb hs ht
theorem parseN_range (l : List Int) : 0 ≤ parseN l ∧ parseN l ≤ 32 := by
 unfold parseN
 cases h : parseH l with
 | ok x => exact ⟨Int.le_refl 0, show (0 : Int) ≤ 32 by decide⟩
 | err n =>
  show 0 ≤ n ∧ n ≤ 32
  unfold parseH at h
  repeat' split at h
  all_goals first | (injection h with h; omega) | cases h
set_option maxRecDepth 100000 in
set_option maxHeartbeats 8000000 in
theorem law_parses_calls (A : Option Addr) (n c : Nat) (l : List Int) (w : World) (hr : Kd.C (Kd.int .u8) w A l.length l) (hn : n = l.length) (hc : n ≤ c) (hb : Bytes l) (HT_ : Tabs w) :
  Calls Tryz.prog 6 #[.slice A n c] w fun e w' => e = .returned (.bool true) ∧ Below w.heap.size w w' := by
 have HRP := Aside0.mk (fun (W : World) (hB : Below w.heap.size w W) => ref_parse A n c l W (Kd.C_below hr hB) hn hc hb)
 have HHP := Aside0.mk (Parse_as A n c l (parseN l) (parseR l) w hr hn.symm hc hb HT_ rfl rfl)
 have HRW := Aside0.mk (fun (W : World) (hB : Below w.heap.size w W) => ref_way A n c l W (Kd.C_below hr hB) hn hc)
 have HHW := Aside0.mk (fun (W : World) (hB : Below w.heap.size w W) => show Calls Tryz.prog 16 #[.slice A n c] W fun e w' => e = .returned (.tuple #[.int .i64 (wayF l).1, .bool (wayF l).2]) ∧ Below W.heap.size W w' from by
  rw [hn]
  exact (head_Way.calls A c l (wayF l).1 (wayF l).2 W (Kd.C_below hr hB) (by omega) rfl (HT_.below hB)))
 have hm := parseN_range l
 unfold RPost at HRP
 generalize parseN l = m at HRP HHP hm
 generalize parseR l = h at HRP HHP
 generalize (wayF l).1 = k at HRW HHW
 generalize (wayF l).2 = ok at HRW HHW
 have hmw : IntKind.i64.wrap m = m := by rw [i64_w]; exact wrap64_id _ (by omega) (by omega)
 have hmw2 : wrap64 m = m := wrap64_id _ (by omega) (by omega)
 have e0 : (m == m) = true := beq_self_eq_true _
 have e1 : (k == k) = true := beq_self_eq_true _
 have e2 : (ok == ok) = true := beq_self_eq_true _
 clear hr hn hc hb HT_ hm
 go_enter Tryz.func6, Tryz.ntmps6
 go_upto_region 2 with (first | (go_at_call 13; refine HHP.out.mono ?_; rintro e w1 ⟨v0, cs, HCS, rfl, HR1, hb1⟩; have HB1 := Aside0.mk hb1; clear hb1) | (refine wpList_store_rowTo rfl 31 _ _ rfl rfl w1.heap.size cs rfl rfl 31 zeroH (row2_alloc w1 zeroH 31) (by rw [HCS.out.size]; kernel_rfl) (by rw [HCS.out.size]; rfl) (HCS.out.one (Kd.R_val HR1.out).2) ?_))
 have H1 := Aside0.mk (HB.box HCS.out HR1.out HB1.out)
 change Code.wp _ _ _ _ ((w1.alloc (.cells zeroH 31)).setRow w1.heap.size cs)
 generalize (w1.alloc (.cells zeroH 31)).setRow w1.heap.size cs = w3 at H1 ⊢
 generalize w1.heap.size = g at H1 ⊢
 clear HR1 HB1 HHP
 go_upto_region 3 with (first | (go_at_call 15; refine (HRP.out _ H1.out.b).mono ?_; rintro e w4 ⟨v4, ct, HCT, rfl, HR4, hb4⟩; have HB4 := Aside0.mk hb4; clear hb4) | (refine wpList_store_rowTo rfl 31 _ _ rfl rfl w4.heap.size ct rfl rfl 31 zeroH (row2_alloc w4 zeroH 31) (by rw [HCT.out.size]; kernel_rfl) (by rw [HCT.out.size]; rfl) (HCT.out.one (Kd.R_val HR4.out).2) ?_))
 have H2 := Aside0.mk (HB.box HCT.out (Kd.R_lower HR4.out H1.out.b.size) (below_step H1.out.b HB4.out))
 have H3 := Aside0.mk ((H1.out.below HB4.out).below (box_hdr w4 ct).2)
 change Code.wp _ _ _ _ ((w4.alloc (.cells zeroH 31)).setRow w4.heap.size ct)
 generalize (w4.alloc (.cells zeroH 31)).setRow w4.heap.size ct = w5 at H2 H3 ⊢
 generalize w4.heap.size = g5 at H2 ⊢
 clear HR4 HB4 HRP H1
 go_upto_region 5 with (first | (go_at_call 16; refine (HHW.out _ H2.out.b).mono ?_; rintro e w6 ⟨rfl, hb6⟩; have H4 := Aside0.mk (H2.out.below hb6); have H5 := Aside0.mk (H3.out.below hb6); clear hb6) | (go_at_call 17; refine (HRW.out _ H4.out.b).mono ?_; rintro e w7 ⟨rfl, hb7⟩; have H6 := Aside0.mk (H4.out.below hb7); have H7 := Aside0.mk (H5.out.below hb7); clear hb7))
 clear H2 H3 H4 H5 HRW HHW
 obtain ⟨A14, c14, rfl⟩ := Kd.R_slice H7.out.r
 obtain ⟨B14, d14, rfl⟩ := Kd.R_slice H6.out.r
 have HK1 := Aside0.mk (show w7.heap[g]? = some (.cells cs 31 (0, 0)) by rw [HCS.out.eq]; exact H7.out.bk)
 have HK2 := Aside0.mk (show w7.heap[g5]? = some (.cells ct 31 (0, 0)) by rw [HCT.out.eq]; exact H6.out.bk)
 have HSM := Aside0.mk (Same_hdr (Kd.R_reads' H7.out.r).2.2 (Kd.R_reads' H6.out.r).2.2 rfl (Kd.R_reads' H7.out.r).2.1 (Kd.R_reads' H6.out.r).2.1 HCS.out HCT.out)
 go_wp2_with (first | (refine wpList_load_row rfl 31 _ rfl g rfl 31 cs (0, 0) _ HK1.out Tryz.underlying31 rfl (by rw [HCS.out.size]; kernel_rfl) ?_) | (refine wpList_load_row rfl 31 _ rfl g5 rfl 31 ct (0, 0) _ HK2.out Tryz.underlying31 rfl (by rw [HCT.out.size]; kernel_rfl) ?_) | (go_at_call 18; refine HSM.out.mono ?_; rintro e w8 ⟨rfl, hb8⟩; have H8 := Aside0.mk (below_step H7.out.b hb8); clear hb8))
 go_ret
 exact ⟨rfl, H8.out⟩
set_option maxRecDepth 100000 in
set_option maxHeartbeats 8000000 in
theorem mudlarklaw08_HeadParses.walks (A0 : Option Addr) (c0 : Nat) (l0 : List Int) (A1 : Option Addr) (c1 : Nat) (l1 : List Int) (A2 : Option Addr) (c2 : Nat) (l2 : List Int) (sl : Bool) (kd : Int) (w : World) (hr0 : Kd.C (Kd.int .u8) w A0 l0.length l0) (hc0 : l0.length ≤ c0) (hb0 : Bytes l0) (hr1 : Kd.C (Kd.int .u8) w A1 l1.length l1) (hc1 : l1.length ≤ c1) (hb1 : Bytes l1) (hr2 : Kd.C (Kd.int .u8) w A2 l2.length l2) (hc2 : l2.length ≤ c2) (hb2 : Bytes l2) (HT_ : Tabs w) :
  Calls Tryz.prog 3 #[.slice A0 l0.length c0, .slice A1 l1.length c1, .slice A2 l2.length c2, .bool sl, .int .u8 kd] w fun e w' => e = .returned (.bool true) ∧ Below w.heap.size w w' := by
 have HT := Aside0.mk HT_
 have HLK := Aside0.mk law_known_calls
 have HBC := Aside0.mk (fun (W : World) (hB : Below w.heap.size w W) => bent_calls A1 c1 l1 A2 c2 l2 sl W (Kd.C_below hr1 hB) hc1 hb1 (Kd.C_below hr2 hB) hc2 hb2)
 have HP0 := Aside0.mk (fun (W : World) (hB : Below w.heap.size w W) => law_parses_calls A0 l0.length c0 l0 W (Kd.C_below hr0 hB) rfl hc0 hb0 (HT.out.below hB))
 have HKC := Aside0.mk (fun W => head_Known.calls 6 kd _ W (Known_eq kd))
 have HKR := Aside0.mk (fun (W : World) => mudlarkref08_Known.calls kd _ W (refKnown_eq kd))
 generalize knownB kd = kb at HKC HKR
 have e2 : (kb == kb) = true := beq_self_eq_true _
 obtain ⟨n0, hn0⟩ : ∃ n, n = l0.length := ⟨_, rfl⟩
 obtain ⟨n1, hn1⟩ : ∃ n, n = l1.length := ⟨_, rfl⟩
 obtain ⟨n2, hn2⟩ : ∃ n, n = l2.length := ⟨_, rfl⟩
 rw [← hn0] at HP0
 rw [← hn1, ← hn2] at HBC
 rw [← hn0, ← hn1, ← hn2]
 clear hr0 hc0 hb0 hr1 hc1 hb1 hr2 hc2 hb2 hn0 hn1 hn2 HT_
 go_enter Tryz.func3, Tryz.ntmps3
 by_cases h6 : 600 < n0
 ·have q6 : ((600 : Int) < (n0 : Int)) = True := eq_true (by omega)
  have q6n : (600 < n0) = True := eq_true h6
  clear h6
  go_wp2_with (go_at_call 5; refine (HLK.out _ HT.out).mono ?_; rintro e w8 ⟨rfl, hb8⟩; have HB8 := Aside0.mk hb8; clear hb8)
  go_ret
  exact ⟨rfl, HB8.out⟩
 ·have q6 : ((600 : Int) < (n0 : Int)) = False := eq_false (by omega)
  have q6n : (600 < n0) = False := eq_false h6
  clear h6
  go_upto_region 3 with (first | (go_at_call 5; refine (HLK.out _ HT.out).mono ?_; rintro e w1 ⟨rfl, hb1⟩; have HB1 := Aside0.mk hb1; clear hb1))
  go_wp2_with (first
   | (go_at_call 7; refine (HBC.out _ H4.out).mono ?_; rintro e w2 ⟨v, l, rfl, HBP, HR2, hb2⟩; have HB2 := Aside0.mk (below_step H4.out hb2); clear hb2; obtain ⟨A3, c3, hv⟩ := Kd.R_slice HR2.out; subst hv; have HC3 := Aside0.mk (Kd.R_reads' HR2.out))
   | (go_at_call 6; (with_reducible refine (HP0.out _ HB1.out).mono ?_); rintro e w4 ⟨rfl, hb4⟩; have H4 := Aside0.mk (below_step HB1.out hb4); clear hb4)
   | (go_at_call 6; refine (law_parses_calls A3 l.length c3 l w2 HC3.out.2.2 rfl HC3.out.2.1 HBP.out.blk.bytes (HT.out.below HB2.out)).mono ?_; rintro e w5 ⟨rfl, hb5⟩; have H5 := Aside0.mk (below_step HB2.out hb5); clear hb5)
   | (go_at_call 8; refine (HKC.out _).mono ?_; rintro e w6 ⟨rfl, hd6⟩; have H6 := Aside0.mk (below_step H5.out hd6); clear hd6)
   | (go_at_call 9; refine (HKR.out _).mono ?_; rintro e w7 ⟨rfl, hd7⟩; have H7 := Aside0.mk (below_step H6.out (drawn_below hd7)); clear hd7))
  go_ret
  exact ⟨rfl, H7.out⟩
theorem mudlarklaw08_HeadParses.walk (P : mudlarklaw08_HeadParses.Pure) (a0 : Option Addr) (len0 cap0 : Nat) (z0 : List Int) (a1 : Option Addr) (len1 cap1 : Nat) (z1 : List Int) (a2 : Option Addr) (len2 cap2 : Nat) (z2 : List Int) (a3 : Bool) (a4 : Int) (w : World) (w0 : (a0 = none ∧ len0 = 0 ∧ cap0 = 0 ∧ z0 = []) ∨ ∃ x, a0 = some x ∧ len0 ≤ cap0 ∧ cap0 ≤ maxLen ∧ z0.length = cap0 ∧ (∀ i, i < z0.length → w.cell? (x.add i) = some (.int .u8 (z0.getD i 0))) ∧ ∀ n ∈ z0, (Lit.int .u8 n).wf = true) (y0 : len0 * 1 ≤ 140737488351232)
  (w1 : (a1 = none ∧ len1 = 0 ∧ cap1 = 0 ∧ z1 = []) ∨ ∃ x, a1 = some x ∧ len1 ≤ cap1 ∧ cap1 ≤ maxLen ∧ z1.length = cap1 ∧ (∀ i, i < z1.length → w.cell? (x.add i) = some (.int .u8 (z1.getD i 0))) ∧ ∀ n ∈ z1, (Lit.int .u8 n).wf = true) (y1 : len1 * 1 ≤ 140737488351232)
  (w2 : (a2 = none ∧ len2 = 0 ∧ cap2 = 0 ∧ z2 = []) ∨ ∃ x, a2 = some x ∧ len2 ≤ cap2 ∧ cap2 ≤ maxLen ∧ z2.length = cap2 ∧ (∀ i, i < z2.length → w.cell? (x.add i) = some (.int .u8 (z2.getD i 0))) ∧ ∀ n ∈ z2, (Lit.int .u8 n).wf = true) (y2 : len2 * 1 ≤ 140737488351232) (w4 : (Lit.int .u8 a4).wf = true) (HT_ : Tabs w) :
  Calls Tryz.prog 3 #[.slice a0 len0 cap0, .slice a1 len1 cap1, .slice a2 len2 cap2, .bool a3, .int .u8 a4] w fun e w' => e = .returned (.bool true) ∧ Below w.heap.size w w' := by
 obtain ⟨l0, rfl, hr0, hm0, hw0, hc0⟩ := ReadsInt.ofRowC w0
 obtain ⟨l1, rfl, hr1, hm1, hw1, hc1⟩ := ReadsInt.ofRowC w1
 obtain ⟨l2, rfl, hr2, hm2, hw2, hc2⟩ := ReadsInt.ofRowC w2
 exact mudlarklaw08_HeadParses.walks _ _ l0 _ _ l1 _ _ l2 a3 a4 w (Kd.C_of_reads (d := (0 : Int)) (h1 := fun _ => rfl) hr0) hc0 (bytes_of_wf hw0) (Kd.C_of_reads (d := (0 : Int)) (h1 := fun _ => rfl) hr1) hc1 (bytes_of_wf hw1) (Kd.C_of_reads (d := (0 : Int)) (h1 := fun _ => rfl) hr2) hc2 (bytes_of_wf hw2) HT_
end Go.Proofs.YtkfcfbggojmfkaaGreatDoor.P
end
