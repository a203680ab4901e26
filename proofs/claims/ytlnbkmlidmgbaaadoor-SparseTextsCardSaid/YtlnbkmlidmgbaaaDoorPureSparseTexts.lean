/- The statement SparseTexts, in lists and numbers. No conditions. -/
import Derived.Test.YtlnbkmlidmgbaaaDoorHFieldsP
import Derived.Test.YtlnbkmlidmgbaaaDoorHOldP
import Derived.Test.YtlnbkmlidmgbaaaDoorPx13
namespace Go.Proofs.YtlnbkmlidmgbaaaDoor.Pure
open Go Go.RowKit Go.Shelf Go.Lib Go.Proofs.YtlnbkmlidmgbaaaDoor.P Go.Proofs.YtlnbkmlidmgbaaaDoorW.PrintWords Go.Proofs.YtlnbkmlidmgbaaaDoorW.PrintLast Go.Proofs.YtlnbkmlidmgbaaaDoorW.PrintMore
set_option linter.unusedVariables false
set_option linter.unusedSimpArgs false

theorem old_true (l : List Int) (hb : Bytes l) (hl : l.length ≤ 4611686018427387904) : Ev (fun k => mudlarklaw09_old.f k l) true := by
  obtain ⟨q, hq⟩ : ∃ q, q = partsR l 0 21 := ⟨_, rfl⟩
  have h1 := HeadParts_ev l hb hl 0 21
  have h2 := RefParts_ev l hb hl 0 21
  have h3 := partsR_len l 0 21
  rw [← hq] at h1 h2 h3
  obtain ⟨r, hr, hrl⟩ : ∃ r : List S40 × Bool × Bool, (Ev (fun k => sparse_Old.f k l) r ∧ Ev (fun k => mudlarkref09_Old.f k l) r) ∧ r.1.length ≤ 21 := by
    by_cases c : (l.length : Int) = 512
    · by_cases c2 : q.2 = true
      · refine ⟨(q.1, (rd l 504 != 0), true), ⟨?_, ?_⟩, h3⟩
        · refine Ev.congr (f := fun k => (head_Parts.f k l 0 21).bind fun bt201 => (if bt201.2 = true then (if 504 < (l.length : Int) then (some (bt201.1, ((rd l 504) != 0), true)) else (none)) else (some (([] : List (S40)), false, false)))) (fun k => by unfold sparse_Old.f; rw [if_pos c]) (Ev.bind h1 ?_)
          simp only [if_pos c2]
          rw [if_pos (by omega)]
          exact Ev.now _
        · refine Ev.congr (f := fun k => (mudlarkref08_Parts.f k l 0 21).bind fun bt201 => (if bt201.2 = true then (if 504 < (l.length : Int) then (some (bt201.1, ((rd l 504) != 0), true)) else (none)) else (some (([] : List (S40)), false, false)))) (fun k => by unfold mudlarkref09_Old.f; rw [if_pos c]) (Ev.bind h2 ?_)
          simp only [if_pos c2]
          rw [if_pos (by omega)]
          exact Ev.now _
      · refine ⟨([], false, false), ⟨?_, ?_⟩, by simp⟩
        · refine Ev.congr (f := fun k => (head_Parts.f k l 0 21).bind fun bt201 => (if bt201.2 = true then (if 504 < (l.length : Int) then (some (bt201.1, ((rd l 504) != 0), true)) else (none)) else (some (([] : List (S40)), false, false)))) (fun k => by unfold sparse_Old.f; rw [if_pos c]) (Ev.bind h1 ?_)
          simp only [if_neg c2]
          exact Ev.now _
        · refine Ev.congr (f := fun k => (mudlarkref08_Parts.f k l 0 21).bind fun bt201 => (if bt201.2 = true then (if 504 < (l.length : Int) then (some (bt201.1, ((rd l 504) != 0), true)) else (none)) else (some (([] : List (S40)), false, false)))) (fun k => by unfold mudlarkref09_Old.f; rw [if_pos c]) (Ev.bind h2 ?_)
          simp only [if_neg c2]
          exact Ev.now _
    · refine ⟨([], false, false), ⟨?_, ?_⟩, by simp⟩
      · exact Ev.congr (f := fun _ => some ([], false, false)) (fun k => by unfold sparse_Old.f; rw [if_neg c]) (Ev.now _)
      · exact Ev.congr (f := fun _ => some ([], false, false)) (fun k => by unfold mudlarkref09_Old.f; rw [if_neg c]) (Ev.now _)
  unfold mudlarklaw09_old.f
  refine Ev.bind (g := fun k => sparse_Old.f k l) hr.1 (Ev.bind (g := fun k => mudlarkref09_Old.f k l) hr.2 (Ev.bind (g := fun k => mudlarkref09_Same.f k r.1 r.1) (Same_ev r.1 (by omega)) ?_))
  simp only [if_true, beq_self_eq_true]
  exact Ev.now true
/-! ### A block of choices -/
theorem set_bytes' {l : List Int} (h : Bytes l) (i : Nat) (v : Int) (hv : 0 ≤ v ∧ v < 256) : Bytes (l.set i v) := fun x hx => by
  rcases List.mem_or_eq_of_mem_set hx with hx | rfl
  · exact h x hx
  · exact hv
theorem block_l1 (x0 : List Int) (x4 : List S40) (i : Nat) (hi : i < 21) : ∀ (c : Nat) (x3 : List Int) (x8 x9 : Int), c ≤ 11 → x3.length = 512 → Bytes x3 → ∃ b : List Int, (b.length = 512 ∧ Bytes b) ∧ ∀ r, Ev (fun k => mudlarklaw09_Block.l0 k x0 b x4 ((i + 1 : Nat) : Int)) r → Ev (fun k => mudlarklaw09_Block.l1 k x0 x3 x4 (i : Int) x8 x9 ((c : Int) - 1)) r
  | 0, x3, x8, x9, hc, h3, hb => by
    refine ⟨x3, ⟨h3, hb⟩, fun r hr => Ev.step (fun k => ?_) hr⟩
    simp only [mudlarklaw09_Block.l1]
    rw [if_neg (by omega), next_i i (by omega)]
  | c + 1, x3, x8, x9, hc, h3, hb => by
    have w1 : wrap64 (24 * (i : Int)) = 24 * (i : Int) := wrap64_id _ (by omega) (by omega)
    have w2 : wrap64 (24 * (i : Int) + (c : Int)) = ((24 * i + c : Nat) : Int) := by rw [wrap64_id _ (by omega) (by omega)]; push_cast; rfl
    have w3 : wrap64 (24 * (i : Int) + 12) = 24 * (i : Int) + 12 := wrap64_id _ (by omega) (by omega)
    have w4 : wrap64 (24 * (i : Int) + 12 + (c : Int)) = ((24 * i + 12 + c : Nat) : Int) := by rw [wrap64_id _ (by omega) (by omega)]; push_cast; rfl
    have w5 : wrap64 ((c : Int) - 1) = (c : Int) - 1 := wrap64_id _ (by omega) (by omega)
    have e : ((c + 1 : Nat) : Int) - 1 = (c : Int) := by push_cast; omega
    have b1 : Bytes ((x3.set (24 * i + c) (48 + ((mx x8 0) % 8))).set (24 * i + 12 + c) ((wrap64 (48 + (Int.tmod x9 8))) % 256)) := set_bytes' (set_bytes' hb _ _ (by omega)) _ _ (by omega)
    obtain ⟨b, h1, h2⟩ := block_l1 x0 x4 i hi c _ (wrap64 (Int.tdiv x8 8)) (wrap64 (Int.tdiv x9 8)) (by omega) (show ((x3.set (24 * i + c) (48 + ((mx x8 0) % 8))).set (24 * i + 12 + c) ((wrap64 (48 + (Int.tmod x9 8))) % 256)).length = 512 by rw [List.length_set, List.length_set]; exact h3) b1
    refine ⟨b, h1, fun r hr => ?_⟩
    rw [e]
    refine Ev.step (fun k => ?_) (h2 r hr)
    simp only [mudlarklaw09_Block.l1]
    rw [if_pos (by omega), w1, w2, w3, w4, if_pos (by omega), if_pos (by omega), if_pos (by omega), if_pos (by omega), Int.toNat_natCast, Int.toNat_natCast, w5]
theorem block_end (x0 : List Int) (h0 : Bytes x0) (x3 : List Int) (x4 : List S40) (i : Int) (h3 : x3.length = 512) (hb : Bytes x3) : ∃ b : List Int, (b.length = 512 ∧ Bytes b) ∧ Ev (fun k => mudlarklaw09_Block.j1 k x0 x3 x4 i false) b := by
  by_cases c1 : (x0.length : Int) > 1
  · obtain ⟨u0, u1⟩ := h0.rdb 0 (by omega) (by omega)
    obtain ⟨v0, v1⟩ := h0.rdb 1 (by omega) (by omega)
    have t0 : 0 ≤ Int.tmod (rd x0 0) 2 := Int.tmod_nonneg _ u0
    have t1 : Int.tmod (rd x0 0) 2 < 2 := Int.tmod_lt_of_pos _ (by omega)
    have t2 : 0 ≤ Int.tmod (rd x0 0) 21 := Int.tmod_nonneg _ u0
    have t3 : Int.tmod (rd x0 0) 21 < 21 := Int.tmod_lt_of_pos _ (by omega)
    have by1 := set_bytes' hb (504 : Int).toNat (Int.tmod (rd x0 0) 2) ⟨t0, by omega⟩
    have ly1 : (x3.set (504 : Int).toNat (Int.tmod (rd x0 0) 2)).length = 512 := by rw [List.length_set]; exact h3
    obtain ⟨y, hye⟩ : ∃ y, y = x3.set (504 : Int).toNat (Int.tmod (rd x0 0) 2) := ⟨_, rfl⟩
    rw [← hye] at by1 ly1
    by_cases c2 : (rd x0 1) > 240
    · obtain ⟨q, hqe⟩ : ∃ q, q = Int.tmod (rd x0 0) 21 := ⟨_, rfl⟩
      rw [← hqe] at t2 t3
      have hqe0 := Aside0.mk hqe
      clear hqe t0 t1
      refine ⟨_, ⟨by rw [List.length_set]; exact ly1, set_bytes' by1 _ _ ⟨v0, v1⟩⟩, Ev.step (f := fun _ => some (y.set (24 * q + 3).toNat (rd x0 1))) (fun k => ?_) (Ev.now _)⟩
      simp only [mudlarklaw09_Block.j1]
      rw [if_neg (by simp), if_pos c1, if_pos (by omega), if_pos (by omega), Option.bind_some, if_pos (by omega), if_pos c2, ← hqe0.out, wrap64_id q (by omega) (by omega), wrap64_id (24 * q) (by omega) (by omega), wrap64_id (24 * q + 3) (by omega) (by omega), if_pos (by omega), if_pos (by omega), ← hye]
    · refine ⟨y, ⟨ly1, by1⟩, Ev.step (f := fun _ => some y) (fun k => ?_) (Ev.now _)⟩
      simp only [mudlarklaw09_Block.j1]
      rw [if_neg (by simp), if_pos c1, if_pos (by omega), if_pos (by omega), Option.bind_some, if_pos (by omega), if_neg c2, ← hye]
  · refine ⟨x3, ⟨h3, hb⟩, Ev.step (f := fun _ => some x3) (fun k => ?_) (Ev.now _)⟩
    simp only [mudlarklaw09_Block.j1]
    rw [if_neg (by simp), if_neg c1]
theorem block_l0 (x0 : List Int) (h0 : Bytes x0) (x4 : List S40) (h4 : x4.length ≤ 8) : ∀ (d i : Nat) (x3 : List Int), i + d = x4.length → x3.length = 512 → Bytes x3 → ∃ b : List Int, (b.length = 512 ∧ Bytes b) ∧ Ev (fun k => mudlarklaw09_Block.l0 k x0 x3 x4 (i : Int)) b
  | 0, i, x3, hd, h3, hb => by
    obtain ⟨b, h1, h2⟩ := block_end x0 h0 x3 x4 (i : Int) h3 hb
    refine ⟨b, h1, Ev.step (fun k => ?_) h2⟩
    simp only [mudlarklaw09_Block.l0]
    rw [if_neg (by omega)]
  | d + 1, i, x3, hd, h3, hb => by
    obtain ⟨b, h1, h2⟩ := block_l1 x0 x4 i (by omega) 11 x3 ((rd_T40 x4 i).f0) ((rd_T40 x4 i).f1) (Nat.le_refl _) h3 hb
    obtain ⟨b', h3', h4'⟩ := block_l0 x0 h0 x4 h4 d (i + 1) b (by omega) h1.1 h1.2
    refine ⟨b', h3', Ev.step (f := fun k => mudlarklaw09_Block.j1 k x0 x3 x4 (i : Int) true) (fun k => ?_) (Ev.step (fun k => ?_) (h2 b' h4'))⟩
    · simp only [mudlarklaw09_Block.l0]
      rw [if_pos (by omega), decide_eq_true (by omega)]
    · simp only [mudlarklaw09_Block.j1]
      rw [if_pos trivial, if_pos (by omega), if_pos (by omega)]
      rfl
theorem Block_ev (c : List Int) (hcl : c.length * 1 ≤ 140737488351232) (hc : ∀ x ∈ c, (Lit.int .u8 x).wf = true) : ∃ b : List Int, (b.length = 512 ∧ Bytes b) ∧ Ev (fun k => mudlarklaw09_Block.f k c) b := by
  obtain ⟨l, n, e, hev, hok⟩ := Parts_ev c hcl hc
  obtain ⟨b, h1, h2⟩ := block_l0 c (wf_bytes hc) l hok.len l.length 0 (List.replicate 512 0) (by omega) List.length_replicate (fun x hx => by rw [(List.mem_replicate.1 hx).2]; omega)
  refine ⟨b, h1, Ev.congr (f := fun k => (mudlarklaw09_Parts.f k c).bind fun bt253 => (mudlarklaw09_Block.l0 k c (List.replicate 512 0) bt253.1 0)) (fun k => ?_) (Ev.bind hev h2)⟩
  unfold mudlarklaw09_Block.f
  rw [if_pos (by decide)]
/-! ### A text of choices -/
theorem num_ev (a : Int) : ∃ t : ByteArray, mudlarkref09_number.f a = some t ∧ t.size ≤ 21 := by
  obtain ⟨n, hn, hn2⟩ := clip a 9999999999999 (by decide)
  refine ⟨tx (Lib.itoa (n : Int)), ?_, ?_⟩
  · unfold mudlarkref09_number.f
    rw [hn, Itoa_f _ ⟨by omega, by omega⟩]
    rfl
  · rw [show (tx (Lib.itoa (n : Int))).size = (Lib.itoa (n : Int)).length from Lib.size_eq _]
    exact Lib.itoa_length_le _ (by omega) (by omega)
theorem print_l0 (l : List S40) (hl : l.length ≤ 8) : ∀ (d i : Nat) (s : ByteArray), i + d = l.length → s.size ≤ 44 * i → ∃ t : ByteArray, t.size ≤ 44 * l.length ∧ Ev (fun k => mudlarkref09_Print.l0 k l s (i : Int)) t
  | 0, i, s, hd, hs => by
    refine ⟨s, by omega, Ev.step (f := fun _ => some s) (fun k => ?_) (Ev.now _)⟩
    simp only [mudlarkref09_Print.l0]
    rw [if_neg (by omega)]
  | d + 1, i, s, hd, hs => by
    obtain ⟨a, ha, ha2⟩ := num_ev (rd_T40 l i).f0
    obtain ⟨b, hb, hb2⟩ := num_ev (rd_T40 l i).f1
    have h44 : (⟨#[44]⟩ : ByteArray).size = 1 := rfl
    have w1 : wrap64 ((i : Int) + 1) = ((i + 1 : Nat) : Int) := next_i i (by omega)
    by_cases c : (i : Int) > 0
    · obtain ⟨t, h1, h2⟩ := print_l0 l hl d (i + 1) ((((s ++ (⟨#[44]⟩ : ByteArray)) ++ a) ++ (⟨#[44]⟩ : ByteArray)) ++ b) (by omega) (by (try simp only [ByteArray.size_append, h44]); omega)
      refine ⟨t, h1, Ev.step (fun k => ?_) h2⟩
      simp only [mudlarkref09_Print.l0]
      rw [if_pos (by omega), if_pos c, if_pos (by omega), if_pos (by omega), ha]
      simp only [Option.bind_some]
      rw [if_pos (by (try simp only [ByteArray.size_append, h44]); omega), if_pos (by (try simp only [ByteArray.size_append, h44]); omega), hb]
      simp only [Option.bind_some]
      rw [if_pos (by (try simp only [ByteArray.size_append, h44]); omega), w1]
    · obtain ⟨t, h1, h2⟩ := print_l0 l hl d (i + 1) (((s ++ a) ++ (⟨#[44]⟩ : ByteArray)) ++ b) (by omega) (by (try simp only [ByteArray.size_append, h44]); omega)
      refine ⟨t, h1, Ev.step (fun k => ?_) h2⟩
      simp only [mudlarkref09_Print.l0]
      rw [if_pos (by omega), if_neg c, if_pos (by omega), ha]
      simp only [Option.bind_some]
      rw [if_pos (by (try simp only [ByteArray.size_append, h44]); omega), if_pos (by (try simp only [ByteArray.size_append, h44]); omega), hb]
      simp only [Option.bind_some]
      rw [if_pos (by (try simp only [ByteArray.size_append, h44]); omega), w1]
theorem Text_ev (c : List Int) (hcl : c.length * 1 ≤ 140737488351232) (hc : ∀ x ∈ c, (Lit.int .u8 x).wf = true) : ∃ t : ByteArray, t.size ≤ 1000 ∧ Ev (fun k => mudlarklaw09_Text.f k c) t := by
  obtain ⟨l, n, e, hev, hok⟩ := Parts_ev c hcl hc
  have h8 := hok.len
  obtain ⟨s, hs, hs2⟩ := print_l0 l h8 l.length 0 ⟨#[]⟩ (by omega) (Nat.le_refl 0)
  have hP : Ev (fun k => mudlarkref09_Print.f k l) s := hs2
  suffices h : ∃ t : ByteArray, t.size ≤ 1000 ∧ (if (c.length : Int) > 0 then (if 0 < (c.length : Int) then (if (rd c 0) > 150 then (if (wrap64 ((s.size : Int) + 1)) = 0 then (none) else (if 0 ≤ (Int.tmod (wrap64 (rd c 0)) (wrap64 ((s.size : Int) + 1))) then (if (Int.tmod (wrap64 (rd c 0)) (wrap64 ((s.size : Int) + 1))) ≤ (s.size : Int) then ((some (([(⟨#[44]⟩ : ByteArray), (⟨#[45]⟩ : ByteArray), (⟨#[48]⟩ : ByteArray), (⟨#[120]⟩ : ByteArray), (⟨#[57, 57, 57, 57, 57, 57, 57, 57, 57, 57, 57, 57, 57, 57]⟩ : ByteArray)] : List ByteArray) : List ByteArray)).bind fun y151 => (if 0 ≤ (Int.tmod (rd c 0) 5) then (if (Int.tmod (rd c 0) 5) < (y151.length : Int) then (if (s.extract 0 ((Int.tmod (wrap64 (rd c 0)) (wrap64 ((s.size : Int) + 1))) : Int).toNat).size + (rdOf ByteArray.empty y151 (Int.tmod (rd c 0) 5)).size ≤ 9223372036854775807 then (if ((s.extract 0 ((Int.tmod (wrap64 (rd c 0)) (wrap64 ((s.size : Int) + 1))) : Int).toNat) ++ (rdOf ByteArray.empty y151 (Int.tmod (rd c 0) 5))).size + (s.extract ((Int.tmod (wrap64 (rd c 0)) (wrap64 ((s.size : Int) + 1))) : Int).toNat s.size).size ≤ 9223372036854775807 then (some (((s.extract 0 ((Int.tmod (wrap64 (rd c 0)) (wrap64 ((s.size : Int) + 1))) : Int).toNat) ++ (rdOf ByteArray.empty y151 (Int.tmod (rd c 0) 5))) ++ (s.extract ((Int.tmod (wrap64 (rd c 0)) (wrap64 ((s.size : Int) + 1))) : Int).toNat s.size))) else (none)) else (none)) else (none)) else (none))) else (none)) else (none))) else (some s)) else (none)) else (some s)) = some t by
    obtain ⟨t, h1, h2⟩ := h
    refine ⟨t, h1, ?_⟩
    unfold mudlarklaw09_Text.f
    refine Ev.bind (g := fun k => mudlarklaw09_Parts.f k c) hev (Ev.bind (g := fun k => mudlarkref09_Print.f k l) hP ?_)
    rw [h2]
    exact Ev.now _
  by_cases c1 : (c.length : Int) > 0
  · rw [if_pos c1, if_pos c1]
    by_cases c2 : (rd c 0) > 150
    · obtain ⟨u0, u1⟩ := (wf_bytes hc).rdb 0 (by omega) (by omega)
      rw [if_pos c2, wrap64_id ((s.size : Int) + 1) (by omega) (by omega), wrap64_id (rd c 0) (by omega) (by omega), if_neg (by omega)]
      have t0 : 0 ≤ Int.tmod (rd c 0) ((s.size : Int) + 1) := Int.tmod_nonneg _ u0
      have t1 : Int.tmod (rd c 0) ((s.size : Int) + 1) < (s.size : Int) + 1 := Int.tmod_lt_of_pos _ (by omega)
      have t2 : 0 ≤ Int.tmod (rd c 0) 5 := Int.tmod_nonneg _ u0
      have t3 : Int.tmod (rd c 0) 5 < 5 := Int.tmod_lt_of_pos _ (by omega)
      generalize Int.tmod (rd c 0) ((s.size : Int) + 1) = q at t0 t1
      generalize Int.tmod (rd c 0) 5 = p at t2 t3
      rw [if_pos t0, if_pos (by omega), Option.bind_some, if_pos t2, if_pos (by simp only [List.length_cons, List.length_nil]; omega)]
      have hm : ∀ p : Int, 0 ≤ p → p < 5 → (rdOf ByteArray.empty ([(⟨#[44]⟩ : ByteArray), (⟨#[45]⟩ : ByteArray), (⟨#[48]⟩ : ByteArray), (⟨#[120]⟩ : ByteArray), (⟨#[57, 57, 57, 57, 57, 57, 57, 57, 57, 57, 57, 57, 57, 57]⟩ : ByteArray)] : List ByteArray) p).size ≤ 14 := by
        intro p h0 h1
        have : p = 0 ∨ p = 1 ∨ p = 2 ∨ p = 3 ∨ p = 4 := by omega
        rcases this with rfl | rfl | rfl | rfl | rfl <;> decide +kernel
      have hm' := hm p t2 t3
      generalize rdOf ByteArray.empty ([(⟨#[44]⟩ : ByteArray), (⟨#[45]⟩ : ByteArray), (⟨#[48]⟩ : ByteArray), (⟨#[120]⟩ : ByteArray), (⟨#[57, 57, 57, 57, 57, 57, 57, 57, 57, 57, 57, 57, 57, 57]⟩ : ByteArray)] : List ByteArray) p = z at hm'
      rw [if_pos (by (try simp only [ByteArray.size_append, ByteArray.size_extract]); omega), if_pos (by (try simp only [ByteArray.size_append, ByteArray.size_extract]); omega)]
      exact ⟨_, by simp only [ByteArray.size_append, ByteArray.size_extract]; omega, rfl⟩
    · rw [if_neg c2]
      exact ⟨s, by omega, rfl⟩
  · rw [if_neg c1]
    exact ⟨s, by omega, rfl⟩
theorem SparseTexts : mudlarklaw09_SparseTexts.Pure := by
  intro a0 l1 l2 l3 ha hm1 hs1 hb1 hm2 hs2 hb2 hm3 hs3 hb3
  refine Ev.rounds (g := fun k => mudlarklaw09_SparseTexts.f k a0 l1 l2 l3) ?_
  have hyes : Ev (fun k => mudlarklaw09_SparseTexts.j0 k a0 l1 l2 l3 true) true := by
    refine Ev.step (f := fun _ => some true) (fun k => ?_) (Ev.now true)
    simp only [mudlarklaw09_SparseTexts.j0, if_true, known_all, Option.bind_some]
  by_cases c1 : (a0.size : Int) > 300
  · exact Ev.congr (fun k => by unfold mudlarklaw09_SparseTexts.f; rw [if_pos c1]) hyes
  by_cases c2 : (l2.length : Int) > 600
  · exact Ev.congr (fun k => by unfold mudlarklaw09_SparseTexts.f; rw [if_neg c1, if_pos c2]) hyes
  refine Ev.congr (f := fun k => mudlarklaw09_SparseTexts.j0 k a0 l1 l2 l3 false) (fun k => by unfold mudlarklaw09_SparseTexts.f; rw [if_neg c1, if_neg c2, known_all]; rfl) ?_
  obtain ⟨t, ht, hT⟩ := Text_ev l1 hs1 hb1
  obtain ⟨b, hbl, hB⟩ := Block_ev l3 hs3 hb3
  have L : ∀ s : ByteArray, s.size ≤ 1000 → (parseR s).1.length ≤ 9223372036854775806 := by
    intro s hs
    unfold parseR finR
    split
    · simp
    · split
      · split
        · simp
        · simp only []
          rw [pairs_length]
          omega
      · simp
  refine Ev.step (fun k => by simp only [mudlarklaw09_SparseTexts.j0]; rw [if_neg (by simp), parse_f a0 (by omega), Option.bind_some]) ?_
  refine Ev.bind (g := fun k => mudlarkref09_Parse.f k a0) (refParse_ev a0 (by omega)) (Ev.bind (g := fun k => mudlarklaw09_Text.f k l1) hT ?_)
  rw [parse_f t (by omega)]
  simp only [Option.bind_some]
  refine Ev.bind (g := fun k => mudlarklaw09_Text.f k l1) hT (Ev.bind (g := fun k => mudlarkref09_Parse.f k t) (refParse_ev t (by omega)) (Ev.bind (g := fun k => mudlarkref09_Same.f k (parseR a0).1 (parseR a0).1) (Same_ev _ (L a0 (by omega))) ?_))
  simp only [if_true, beq_self_eq_true]
  refine Ev.bind (g := fun k => mudlarkref09_Same.f k (parseR t).1 (parseR t).1) (Same_ev _ (L t ht)) ?_
  simp only [if_true]
  refine Ev.bind (g := fun k => mudlarklaw09_old.f k l2) (old_true l2 (wf_bytes hb2) (by omega)) ?_
  simp only [if_true]
  exact Ev.bind (g := fun k => mudlarklaw09_Block.f k l3) hB (Ev.bind (g := fun k => mudlarklaw09_old.f k b) (old_true b hbl.2 (by omega)) (Ev.now true))
end Go.Proofs.YtlnbkmlidmgbaaaDoor.Pure
