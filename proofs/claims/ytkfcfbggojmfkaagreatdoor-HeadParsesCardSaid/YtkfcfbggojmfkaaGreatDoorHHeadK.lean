/- head.Parse and head.Print: what they hand back. Their condition: head.magic holds what its text lays. mudlarklaw08.known: it is true. Its condition: head.magic holds what its text lays. -/
import Derived.Test.YtkfcfbggojmfkaaGreatDoorHHeadN
import Derived.Test.YtkfcfbggojmfkaaGreatDoorHHeadG
import Derived.Test.YtkfcfbggojmfkaaGreatDoorHHeadD
import Derived.Test.YtkfcfbggojmfkaaGreatDoorHHeadY
section
namespace Go.Proofs.YtkfcfbggojmfkaaGreatDoor.P
open Go Go.RowKit Go.Proofs.YtkfcfbggojmfkaaGreatDoorW.PrintWords Go.Proofs.YtkfcfbggojmfkaaGreatDoorW.PrintLast Go.Proofs.YtkfcfbggojmfkaaGreatDoorW.PrintMore
set_option linter.unusedVariables false
set_option linter.unusedSimpArgs false

def printN (h : S31) : Int := match printO h with | .err n => n | .ok _ => 0
def printL (h : S31) : List Int := match printO h with | .err _ => [] | .ok l => l
def parseN (l : List Int) : Int := match parseH l with | .err n => n | .ok _ => 0
def parseR (l : List Int) : S31 := match parseH l with | .err _ => z31 | .ok h => h
theorem Print_calls (h : S31) (A14 : Option Addr) (c14 : Nat) (w : World) (hp : Kd.C k64 w A14 h.f14.length h.f14) (hc : h.f14.length ≤ c14) (HT_ : Tabs w) :
  Calls Tryz.prog 14 #[.agg (cells25 h (.slice A14 h.f14.length c14))] w fun e w' => ∃ v, e = .returned (.tuple #[v, .int .u16 (printN h)]) ∧ Kd.R (Kd.int .u8) 97 w' w.heap.size (fun _ => True) v (printL h) ∧ Below w.heap.size w w' := by
 have hpc : ∀ W : World, Below w.heap.size w W → Calls Tryz.prog 32 #[.agg (cells25 h (.slice A14 h.f14.length c14))] W (PrintPost h W) := fun W hb => head_print_calls h A14 c14 W (Kd.C_below hp hb) hc (HT_.below hb)
 unfold PrintPost at hpc
 unfold printN printL
 unfold cells25 at hpc ⊢
 cases hO : printO h with
 | err n =>
  rw [hO] at hpc
  exact head_Print.door_err _ _ _ _ _ _ _ _ _ _ _ _ _ _ _ _ _ n w hpc
 | ok l =>
  rw [hO] at hpc
  exact head_Print.door_ok _ _ _ _ _ _ _ _ _ _ _ _ _ _ _ _ _ l w hpc
theorem parseH_err {l : List Int} {n : Int} (h : parseH l = .err n) : (n == 0) = false := by
 unfold parseH at h
 split at h
 ·injection h with h; subst h; rfl
 ·split at h
  ·injection h with h; subst h; rfl
  ·split at h
   ·injection h with h; subst h; rfl
   ·split at h
    ·injection h with h; subst h; rfl
    ·split at h
     ·injection h with h; subst h; rfl
     ·split at h
      ·split at h
       ·split at h
        ·cases h
        ·injection h with h; subst h; rfl
       ·injection h with h; subst h; rfl
      ·cases h
theorem Parse_calls (A0 : Option Addr) (c0 : Nat) (l0 : List Int) (w : World) (hr0 : Kd.C (Kd.int .u8) w A0 l0.length l0) (hc0 : l0.length ≤ c0) (hb : Bytes l0) (HT_ : Tabs w) :
  Calls Tryz.prog 13 #[.slice A0 l0.length c0] w fun e w' => ∃ v14, e = .returned (.tuple #[.agg (cells25 (parseR l0) v14), .int .u16 (parseN l0)]) ∧ Kd.R k64 64 w' w.heap.size (fun _ => True) v14 (parseR l0).f14 ∧ Below w.heap.size w w' := by
 have hpc : ∀ W : World, Below w.heap.size w W → Calls Tryz.prog 31 #[.slice A0 l0.length c0] W (ParsePost l0 W) := fun W hbw => head_parse_calls A0 c0 l0 W (Kd.C_below hr0 hbw) hc0 hb (HT_.below hbw)
 unfold ParsePost at hpc
 unfold parseN parseR
 cases hO : parseH l0 with
 | err n =>
  have he2 : parseO l0 = .err n := parse_eq l0 _ hO
  rw [he2] at hpc
  exact (head_Parse.door_err A0 l0.length c0 n (parseH_err hO) w hpc).mono fun e w' h => ⟨.slice none 0 0, h.1, Kd.R_nil _ _ _ _ _, h.2⟩
 | ok h =>
  have he : ∃ cs, parseO l0 = .ok cs h.f14 ∧ ∀ v, cs.setIfInBounds 14 v = cells25 h v := parse_eq l0 _ hO
  obtain ⟨cs, he2, hcs⟩ := he
  rw [he2] at hpc
  show Calls Tryz.prog 13 #[.slice A0 l0.length c0] w fun e w' => ∃ v14, e = .returned (.tuple #[.agg (cells25 h v14), .int .u16 0]) ∧ Kd.R k64 64 w' w.heap.size (fun _ => True) v14 h.f14 ∧ Below w.heap.size w w'
  unfold cells25 at hcs ⊢
  refine head_Parse.door_ok k64 64 A0 l0.length c0 _ _ _ _ _ _ _ _ _ _ _ _ _ _ _ _ h.f14 w (fun W hbw => (hpc W hbw).mono fun e w' hq => ?_)
  obtain ⟨hb1, v, rfl, hR⟩ := hq
  exact ⟨hb1, v, by rw [hcs], hR⟩
structure Hdr (h : S31) (v14 : Value) (cs : Array Value) : Prop where
 eq : cs = cells25 h v14
theorem Hdr.size {h : S31} {v14 : Value} {cs : Array Value} (p : Hdr h v14 cs) : cs.size = 17 := by rw [p.eq]; rfl
theorem Hdr.one {h : S31} {v14 : Value} {cs : Array Value} (p : Hdr h v14 cs) (hv : v14.oneCell' = true) : cs.all (·.oneCell') = true := by
 rw [p.eq]
 unfold cells25
 simp [hv]
 repeat (first | exact rfl | refine ⟨rfl, ?_⟩)
theorem box_hdr (W : World) (cs : Array Value) : ((W.alloc (.cells zeroH 31)).setRow W.heap.size cs).heap[W.heap.size]? = some (.cells cs 31 (0, 0)) ∧ Below W.heap.size W ((W.alloc (.cells zeroH 31)).setRow W.heap.size cs) :=
 ⟨setRow_same (row2_alloc W zeroH 31), pw_below_grown (below_alloc (Below.refl _ W) _) (some W.heap.size) (below_alloc (Below.refl _ W) _).size (grown_setRow _ W.heap.size cs) (fun k hk => by injection hk with hk; omega)⟩
theorem Parse_as (A0 : Option Addr) (n c0 : Nat) (l0 : List Int) (m : Int) (h : S31) (w : World) (hr0 : Kd.C (Kd.int .u8) w A0 l0.length l0) (hn : l0.length = n) (hc0 : n ≤ c0) (hb : Bytes l0) (HT_ : Tabs w) (hm : parseN l0 = m) (hh : parseR l0 = h) :
  Calls Tryz.prog 13 #[.slice A0 n c0] w fun e w' => ∃ (v14 : Value) (cs : Array Value), Aside0 (Hdr h v14 cs) ∧ e = .returned (.tuple #[.agg cs, .int .u16 m]) ∧ Aside0 (Kd.R k64 64 w' w.heap.size (fun _ => True) v14 h.f14) ∧ Below w.heap.size w w' := by
 subst hn
 subst hm
 subst hh
 exact (Parse_calls A0 c0 l0 w hr0 hc0 hb HT_).mono fun e w' ⟨v, he, hR, hB⟩ => ⟨v, _, ⟨⟨rfl⟩⟩, he, ⟨hR⟩, hB⟩
end Go.Proofs.YtkfcfbggojmfkaaGreatDoor.P
end

section
namespace Go.Proofs.YtkfcfbggojmfkaaGreatDoor.P
open Go Go.RowKit Go.Proofs.YtkfcfbggojmfkaaGreatDoorW.PrintWords Go.Proofs.YtkfcfbggojmfkaaGreatDoorW.PrintLast Go.Proofs.YtkfcfbggojmfkaaGreatDoorW.PrintMore
set_option linter.unusedVariables false
set_option linter.unusedSimpArgs false

theorem textsP_some (h : S31) : ∀ (ts : List (Nat × Nat × Nat)) (b : List Int), (∀ t ∈ ts, (sputF (txtOf h t.2.2) (t.2.1 : Int)).2 = true) → ∃ c, textsP h ts b = some c
 | [], b, _ => ⟨b, rfl⟩
 | t :: ts, b, ht => by
  unfold textsP
  rw [if_pos (ht t (by simp))]
  exact textsP_some h ts _ (fun x hx => ht x (by simp [hx]))
theorem numsP_some (h : S31) : ∀ (ts : List (Nat × Nat × Nat × Int × Int)) (b : List Int), (∀ t ∈ ts, okN (numOf h t.2.2.1) t.2.1 t.2.2.2.1 t.2.2.2.2) → ∃ c, numsP h ts b = some c
 | [], b, _ => ⟨b, rfl⟩
 | t :: ts, b, ht => by
  unfold numsP
  rw [if_pos (ht t (by simp))]
  exact numsP_some h ts _ (fun x hx => ht x (by simp [hx]))
def hdrA (k n : Int) : S31 := ⟨⟨#[97]⟩, 0, 0, 0, n, 0, k, ⟨#[]⟩, 1, ⟨#[]⟩, ⟨#[]⟩, 0, 0, ⟨#[]⟩, [], false, 0⟩
theorem putN_ok (x : Int) (h0 : 0 ≤ x) (h1 : x ≤ 65535) : (putF x ((8 : Nat) : Int)).2 = true ∧ (putF x ((12 : Nat) : Int)).2 = true := by
 have e8 : (8 : Int) ^ (6 + 1) = 2097152 := by decide
 have e12 : (8 : Int) ^ (10 + 1) = 8589934592 := by decide
 have p8 := put_at x 6 (by omega) (by omega)
 have p12 := put_at x 10 (by omega) (by omega)
 constructor
 ·rw [show ((8 : Nat) : Int) = ((6 + 2 : Nat) : Int) from rfl, p8, if_pos ⟨h0, by rw [e8]; omega⟩]
 ·rw [show ((12 : Nat) : Int) = ((10 + 2 : Nat) : Int) from rfl, p12, if_pos ⟨h0, by rw [e12]; omega⟩]
theorem texts_A (k n : Int) : ∃ b, textsP (hdrA k n) (textsL 1) (List.replicate 512 0) = some b := by
 have e1 : (sputF ⟨#[97]⟩ ((100 : Nat) : Int)).2 = true := by decide +kernel
 have e2 : ∀ w : Nat, (sputF ⟨#[]⟩ (w : Int)).2 = true := fun w => by
  unfold sputF
  rw [if_neg]
  intro h
  rcases h with h | h
  ·have : (⟨#[]⟩ : ByteArray).size = 0 := rfl
   omega
  ·exact absurd h (by decide)
 refine textsP_some _ _ _ ?_
 rw [tl1]
 intro t ht
 simp only [List.mem_cons, List.mem_nil_iff, or_false] at ht
 rcases ht with rfl | rfl | rfl | rfl | rfl
 ·exact e1
 ·exact e2 _
 ·exact e2 _
 ·exact e2 _
 ·exact e2 _
theorem nums_A (k n : Int) (h83 : ¬ k = 83) (h0 : 0 ≤ n) (h1 : n ≤ 65535) (b : List Int) : ∃ c, numsP (hdrA k n) (numbersL 1 k) b = some c := by
 have p0 := putN_ok 0 (by decide) (by decide)
 have pn := putN_ok n h0 h1
 have e : numbersL 1 k = [(100, 8, 1, 0, 4611686018427387904), (108, 8, 2, 0, 4611686018427387904), (116, 8, 3, 0, 4611686018427387904), (124, 12, 4, 0, 1099511627776), (136, 12, 5, -4611686018427387904, 4611686018427387904), (329, 8, 11, 0, 4611686018427387904), (337, 8, 12, 0, 4611686018427387904)] := by
  unfold numbersL
  rw [if_neg h83]
  rfl
 rw [e]
 refine numsP_some _ _ _ ?_
 intro t ht
 simp only [List.mem_cons, List.mem_nil_iff, or_false] at ht
 rcases ht with rfl | rfl | rfl | rfl | rfl | rfl | rfl
 ·exact ⟨p0.1, by simp [numOf, hdrA], by simp [numOf, hdrA]⟩
 ·exact ⟨p0.1, by simp [numOf, hdrA], by simp [numOf, hdrA]⟩
 ·exact ⟨p0.1, by simp [numOf, hdrA], by simp [numOf, hdrA]⟩
 ·exact ⟨pn.2, h0, by show n ≤ 1099511627776; omega⟩
 ·exact ⟨p0.2, by simp [numOf, hdrA], by simp [numOf, hdrA]⟩
 ·exact ⟨p0.1, by simp [numOf, hdrA], by simp [numOf, hdrA]⟩
 ·exact ⟨p0.1, by simp [numOf, hdrA], by simp [numOf, hdrA]⟩
theorem print_A (k n : Int) (hk : knownB k = true) (h83 : ¬ k = 83) (h0 : 0 ≤ n) (h1 : n ≤ 65535) : ∃ l, printO (hdrA k n) = .ok l := by
 obtain ⟨b, hb⟩ := texts_A k n
 obtain ⟨c, hc⟩ := nums_A k n h83 h0 h1 b
 have hf : headFB (hdrA k n) = true := by
  unfold headFB bareB bareV bareP bareS hdrA noneS
  simp
 exact ⟨_, po_all (h := hdrA k n) (by unfold headKB hdrA; simp [hk, h83]) hb hf hc rfl⟩
theorem parse_zero : parseH (List.replicate 512 0) = .err 30 := by
 unfold parseH
 rw [if_neg (by rw [List.length_replicate]; simp), if_pos (by decide +kernel)]
theorem printL_ok {h : S31} {l : List Int} (e : printO h = .ok l) : printL h = l ∧ printN h = 0 := by
 unfold printL printN
 rw [e]
 exact ⟨rfl, rfl⟩
theorem parse_back {h : S31} {l : List Int} (e : printO h = .ok l) : parseR l = h ∧ parseN l = 0 := by
 unfold parseR parseN
 rw [print_parse e]
 exact ⟨rfl, rfl⟩
theorem parseN_zero : parseN (List.replicate 512 0) = 30 := by unfold parseN; rw [parse_zero]
theorem made_C {W : World} {g : Nat} (h : W.heap[g]? = some (.cells (u8c (List.replicate 512 0)).toArray 5 (0, 0))) : Kd.C (Kd.int .u8) W (some ⟨g, 0, none⟩) (List.replicate 512 (0 : Int)).length (List.replicate 512 0) :=
 (Kd.R_reads' (row_R (base := 0) _ h (Nat.zero_le _) (by rw [List.length_replicate]; decide))).2.2
theorem parse_made (bb : Nat) (W : World) (h : W.heap[bb]? = some (.cells (u8c (List.replicate 512 0)).toArray 5 (0, 0))) (HT_ : Tabs W) :
  Calls Tryz.prog 13 #[.slice (some ⟨bb, 0, none⟩) 512 512] W fun e w' => ∃ (v14 : Value) (cs : Array Value), Aside0 (cs.size = 17 ∧ cs.all (·.oneCell') = true) ∧ e = .returned (.tuple #[.agg cs, .int .u16 30]) ∧ Below W.heap.size W w' :=
 (Parse_as (some ⟨bb, 0, none⟩) 512 512 _ 30 _ W (made_C h) List.length_replicate (Nat.le_refl _) (Bytes.replicate 512) HT_ parseN_zero rfl).mono fun e w' ⟨v, cs, hh, he, hR, hB⟩ => ⟨v, cs, ⟨hh.out.size, hh.out.one (Kd.R_val hR.out).2⟩, he, hB⟩
set_option maxRecDepth 100000 in
set_option maxHeartbeats 4000000 in
theorem law_known_calls (w : World) (HT_ : Tabs w) : Calls Tryz.prog 5 #[] w fun e w' => e = .returned (.bool true) ∧ Below w.heap.size w w' := by
 have HT := Aside0.mk HT_
 obtain ⟨l, hl⟩ := print_A 48 0 (by decide) (by decide) (by decide) (by decide)
 obtain ⟨b1, b2, b3, p⟩ := pr_inv hl
 have HPL := Aside0.mk (printL_ok hl)
 have HPB := Aside0.mk (parse_back hl)
 have HLN := Aside0.mk p.length
 have HLB := Aside0.mk p.bytes
 have HK := Aside0.mk (show rd l 156 = 48 from p.rd156)
 have HPC : Aside0 (∀ W : World, Tabs W → Calls Tryz.prog 14 #[.agg (cells25 (hdrA 48 0) (.slice none 0 0))] W fun e w' => ∃ v, e = .returned (.tuple #[v, .int .u16 0]) ∧ Kd.R (Kd.int .u8) 97 w' W.heap.size (fun _ => True) v l ∧ Below W.heap.size W w') := ⟨fun W ht => by
  have := Print_calls (hdrA 48 0) none 0 W (Kd.C_nil _ _) (Nat.le_refl _) ht
  rw [HPL.out.1, HPL.out.2] at this
  exact this⟩
 clear hl p HT_
 go_enter Tryz.func5, Tryz.ntmps5
 go_upto_region 2 with (first | (refine make_bytes rfl 22 (.const (.int .i64 512)) (.const (.int .i64 512)) rfl 512 rfl rfl 5 Tryz.underlying22 info5 (by decide) ?_; rintro bb rfl w2 hbk hb2; have HBK := Aside0.mk hbk; have HB2 := Aside0.mk hb2; clear hbk hb2) | (go_at_call 13; refine (parse_made _ w2 HBK.out (HT.out.below HB2.out)).mono ?_; rintro e w3 ⟨v14, cs, HCS, rfl, hb3⟩; have HB3 := Aside0.mk (below_step HB2.out hb3); clear hb3) | (refine wpList_store_rowTo rfl 31 _ _ rfl rfl w3.heap.size cs rfl rfl 31 zeroH (row2_alloc w3 zeroH 31) (by rw [HCS.out.1]; kernel_rfl) (by rw [HCS.out.1]; rfl) HCS.out.2 ?_))
 have hb := box_hdr w3 cs
 have HB4 := Aside0.mk (below_step HB3.out hb.2)
 change Code.wp _ _ _ _ ((w3.alloc (.cells zeroH 31)).setRow w3.heap.size cs)
 generalize (w3.alloc (.cells zeroH 31)).setRow w3.heap.size cs = w4 at HB4 ⊢
 clear hb
 go_upto_region 3 with (first | (refine wpList_buildTo rfl 31 #[(0, .const (.string ⟨#[97]⟩)), (6, .const (.int .u8 48)), (8, .const (.int .i64 1))] rfl (some 13) rfl (cells25 (hdrA 48 0) (.slice none 0 0)) (by kernel_rfl) ?_) | (go_at_call 14; refine (HPC.out _ (HT.out.below HB4.out)).mono ?_; rintro e w5 ⟨v5, rfl, hR5, hb5⟩; obtain ⟨A5, c5, rfl⟩ := Kd.R_slice hR5; have HB5 := Aside0.mk (below_step HB4.out hb5); have HR5 := Aside0.mk (Kd.R_reads' hR5).2; clear hb5 hR5))
 have HPA := Aside0.mk (Parse_as A5 l.length c5 l 0 (hdrA 48 0) w5 HR5.out.2 rfl HR5.out.1 HLB.out (HT.out.below HB5.out) HPB.out.2 HPB.out.1)
 have q156 : (156 : Int) < (l.length : Int) := by have := HLN.out; omega
 obtain ⟨ad, e5, hx⟩ := Kd.at_int HR5.out.2 156 (by omega) q156
 subst e5
 simp only [show (156 : Int).toNat = 156 from rfl, Nat.reduceEqDiff, Go.Addr.add, ↓reduceIte] at hx
 rw [HK.out] at hx
 have HX := Aside0.mk hx
 have q156n : (156 < l.length) = True := eq_true (by have := HLN.out; omega)
 have q512 : ((l.length : Int) == 512) = true := by rw [HLN.out]; rfl
 clear hx
 go_upto_region 4 with (first | (go_at_call 13; refine HPA.out.mono ?_; rintro e w6 ⟨v15, ct, HCT, rfl, HR6, hb6⟩; have HB6 := Aside0.mk (below_step HB5.out hb6); have hx6 := (hb6.cell (World.block_lt_of_cell? _ _ HX.out)).trans HX.out; clear hb6) | (refine wpList_store_rowTo rfl 31 _ _ rfl rfl w6.heap.size ct rfl rfl 31 zeroH (row2_alloc w6 zeroH 31) (by rw [HCT.out.size]; kernel_rfl) (by rw [HCT.out.size]; rfl) (HCT.out.one (Kd.R_val HR6.out).2) ?_))
 have hb := box_hdr w6 ct
 have HB7 := Aside0.mk (below_step HB6.out hb.2)
 have hx7 := (hb.2.cell (World.block_lt_of_cell? _ _ hx6)).trans hx6
 have hbk := hb.1
 change Code.wp _ _ _ _ ((w6.alloc (.cells zeroH 31)).setRow w6.heap.size ct)
 generalize (w6.alloc (.cells zeroH 31)).setRow w6.heap.size ct = w7 at HB7 hx7 hbk ⊢
 generalize w6.heap.size = g7 at hbk ⊢
 have c0 : w7.cell? ⟨g7, 0, none⟩ = some (.string ⟨#[97]⟩) := (blk_cell hbk 0).trans (by rw [HCT.out.eq]; rfl)
 have c8 : w7.cell? ⟨g7, 8, none⟩ = some (.int .i64 1) := (blk_cell hbk 8).trans (by rw [HCT.out.eq]; rfl)
 clear hb hbk hx6
 go_wp2
 go_ret
 exact ⟨rfl, HB7.out⟩
end Go.Proofs.YtkfcfbggojmfkaaGreatDoor.P
end
