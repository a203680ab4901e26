/- What the printed functions of this chapter come to, in plain words: sums, digits, sealed blocks. No conditions. -/
import Derived.Test.YtmhomfhdelocjaaDoorPx2
import Derived.Test.YtmhomfhdelocjaaDoorHSeal
namespace Go.Proofs.YtmhomfhdelocjaaDoor.P
open Go.RowKit Go.Shelf Go.Lib Go.Proofs.YtmhomfhdelocjaaDoorW.PrintWords Go.Proofs.YtmhomfhdelocjaaDoorW.PrintLast Go.Proofs.YtmhomfhdelocjaaDoorW.PrintMore
set_option linter.unusedVariables false
set_option linter.unusedSimpArgs false

theorem rd_at (l : List Int) (i : Nat) (h : i < l.length) : rd l (i : Int) = l[i] := by simp [rd, h]
theorem wf_u8 {x : Int} (h : (Lit.int .u8 x).wf = true) : 0 ≤ x ∧ x < 256 := by
  simp [Lit.wf, IntKind.min, IntKind.max, IntKind.signed, IntKind.bits] at h
  omega
theorem wf_u16 {x : Int} (h : (Lit.int .u16 x).wf = true) : 0 ≤ x ∧ x < 65536 := by
  simp [Lit.wf, IntKind.min, IntKind.max, IntKind.signed, IntKind.bits] at h
  omega
theorem wf_bytes {l : List Int} (h : ∀ x ∈ l, (Lit.int .u8 x).wf = true) : Bytes l := fun x hx => wf_u8 (h x hx)
theorem Bytes.set {l : List Int} (h : Bytes l) (i : Nat) (v : Int) (hv : 0 ≤ v ∧ v < 256) : Bytes (l.set i v) := fun x hx => by
  rcases List.mem_or_eq_of_mem_set hx with hx | rfl
  · exact h x hx
  · exact hv
theorem Bytes.append {l m : List Int} (h : Bytes l) (k : Bytes m) : Bytes (l ++ m) := fun x hx => (List.mem_append.1 hx).elim (h x) (k x)
theorem Bytes.replicate (n : Nat) : Bytes (List.replicate n 0) := fun x hx => by rw [(List.mem_replicate.1 hx).2]; omega

/-! ### Signed: the sum, less 256 for each byte above 127 -/
def sS : Nat → List Int → Int
  | _, [] => 0
  | i, c :: t => (if 148 ≤ i ∧ i < 156 then 32 else if c > 127 then c - 256 else c) + sS (i + 1) t
theorem sS_bound : ∀ (l : List Int) (i : Nat), Bytes l → -128 * l.length ≤ sS i l ∧ sS i l ≤ 127 * l.length
  | [], _, _ => by simp [sS]
  | c :: t, i, h => by
    have hc := h c (by simp)
    have ht := sS_bound t (i + 1) (fun x hx => h x (by simp [hx]))
    simp only [sS, List.length_cons]
    split
    · constructor <;> push_cast <;> omega
    · split <;> constructor <;> push_cast <;> omega
theorem i8_of (c : Int) (h0 : 0 ≤ c) (h1 : c < 256) : IntKind.i8.wrap c = if c > 127 then c - 256 else c := by
  simp only [IntKind.wrap, IntKind.bits, IntKind.signed]
  simp
  split <;> split <;> omega
theorem eachS (l : List Int) (hb : Bytes l) (hl : l.length ≤ 100000) : ∀ (d : Nat) (i : Nat) (n : Int), l.length - i = d → i ≤ l.length → -128 * i ≤ n → n ≤ 127 * i →
    Ev (fun k => sum_each_s.l0 k n l (l.length : Int) (i : Int)) (n + sS i (l.drop i))
  | 0, i, n, hd, hi, h0, h1 => by
    have e : i = l.length := by omega
    subst e
    refine Ev.step (f := fun _ => some n) (fun k => by simp only [sum_each_s.l0]; rw [if_neg (by omega)]) ?_
    rw [List.drop_length]
    simpa [sS] using Ev.now n
  | d + 1, i, n, hd, hi, h0, h1 => by
    have hlt : i < l.length := by omega
    have hxr := hb l[i] (List.getElem_mem _)
    have er : rd l (i : Int) = l[i] := rd_at l i hlt
    have ed : l.drop i = l[i] :: l.drop (i + 1) := List.drop_eq_getElem_cons hlt
    have ew : wrap64 ((i : Int) + 1) = ((i + 1 : Nat) : Int) := by rw [wrap64_id _ (by omega) (by omega)]; push_cast; rfl
    obtain ⟨c, hc⟩ : ∃ c, c = (if 148 ≤ i ∧ i < 156 then 32 else if l[i] > 127 then l[i] - 256 else l[i]) := ⟨_, rfl⟩
    have hcb : -128 ≤ c ∧ c ≤ 127 := by
      rw [hc]
      split
      · omega
      · split <;> omega
    have ih := eachS l hb hl d (i + 1) (n + c) (by omega) (by omega) (by push_cast; omega) (by push_cast; omega)
    refine Ev.step (f := fun k => sum_each_s.l0 k (n + c) l (l.length : Int) ((i + 1 : Nat) : Int)) (fun k => ?_) ?_
    · simp only [sum_each_s.l0]
      rw [if_pos (by omega), if_pos (by omega), if_pos (by omega)]
      by_cases h2 : 148 ≤ i ∧ i < 156
      · rw [if_pos h2] at hc
        subst hc
        rw [if_pos (by omega), if_pos (by omega), show sum_lit29.f 32 = some 32 by unfold sum_lit29.f; rw [i8_of 32 (by omega) (by omega), if_neg (by omega), wrap64_id 32 (by omega) (by omega)], Option.bind_some]
        rw [ew, wrap64_id (n + 32) (by omega) (by omega)]
      · rw [if_neg h2] at hc
        have es : sum_lit29.f (rd l (i : Int)) = some c := by
          rw [er]
          unfold sum_lit29.f
          rw [i8_of _ hxr.1 hxr.2, ← hc, wrap64_id c (by omega) (by omega)]
        rw [es, Option.bind_some]
        rw [ew, wrap64_id (n + c) (by omega) (by omega)]
        by_cases h3 : (i : Int) ≥ 148
        · rw [if_pos h3, if_neg (by omega)]
        · rw [if_neg h3]
    · rw [ed]
      simp only [sS]
      rw [← hc, ← Int.add_assoc]
      exact ih
theorem Signed_eq (l : List Int) (hb : Bytes l) (hl : l.length ≤ 100000) : Ev (fun k => sum_Signed.f k l) (sS 0 l) := by
  have h := eachS l hb hl l.length 0 0 (by omega) (by omega) (by omega) (by omega)
  rw [List.drop_zero, Int.zero_add] at h
  exact Ev.bind (g := fun k => sum_each_s.f k l) (f := fun _ t => some t) h (Ev.now _)

/-! ### Told, Right, Zero -/
def toldF (l : List Int) : Int × Bool := if l.length = 512 then octF ((l.take 156).drop 148) else (0, false)
def rightF (l : List Int) : Bool := (toldF l).2 && (decide ((toldF l).1 = sU 0 l) || decide ((toldF l).1 = sS 0 l))
def zeroF (l : List Int) : Bool := decide (l.length = 512) && l.all (fun x => decide (x = 0))
theorem Told_eq (l : List Int) (hb : Bytes l) : sum_Told.f l = some (toldF l) := by
  unfold sum_Told.f toldF
  by_cases h : l.length = 512
  · rw [if_pos (by omega), if_pos (by omega), if_pos (by omega), if_pos h]
    unfold num_Octal.f
    rw [if_pos ((bytesB_iff _).2 ((hb.take 156).drop 148))]
    rfl
  · rw [if_neg (by omega), if_neg h]
theorem Right_eq (l : List Int) (hb : Bytes l) (hl : l.length ≤ 100000) : Ev (fun k => sum_Right.f k l) (rightF l) := by
  unfold sum_Right.f
  rw [Told_eq l hb]
  simp only [Option.bind_some]
  unfold rightF
  cases h2 : (toldF l).2 with
  | false => simpa using Ev.now false
  | true =>
    simp only [if_true, Bool.true_and]
    refine Ev.bind (Unsigned_eq l hb hl) ?_
    by_cases h3 : (toldF l).1 = sU 0 l
    · simpa [h3] using Ev.now true
    · simp only [h3, if_false, decide_false, Bool.false_or]
      refine Ev.bind (Signed_eq l hb hl) ?_
      exact Ev.now _
theorem Zero_eq (l : List Int) : sum_Zero.f l = some (zeroF l) := rfl
theorem Seal_eq (l : List Int) (hb : Bytes l) : sum_Seal.f l = some (sealF l) := by
  unfold sum_Seal.f
  rw [if_pos ((bytesB_iff l).2 hb)]
theorem sealF_length (l : List Int) : (sealF l).length = 512 := by
  have h := padF_length l
  unfold sealF
  simp only [List.length_append, List.length_take, List.length_drop, digs_length, h, List.length_cons, List.length_nil]
  omega
theorem sealF_bytes (l : List Int) (hb : Bytes l) : Bytes (sealF l) := by
  have h := padF_bytes l hb
  unfold sealF
  refine (((h.take 148).append ((digs_bytes 6 _).append ?_)).append ?_).append (h.drop 156)
  · exact fun x hx => by simp at hx; omega
  · exact fun x hx => by simp at hx; omega

/-! ### the chapter's examples -/
theorem known_eq : Ev (fun k => mudlarklaw05_known.f k) true := by
  have hz : Bytes (List.replicate 512 0) := Bytes.replicate 512
  unfold mudlarklaw05_known.f
  simp only [show (512 : Nat) ≤ 281474976710656 by decide, if_true, Option.bind_some]
  refine Ev.bind (Unsigned_eq _ hz (by rw [List.length_replicate]; omega)) ?_
  rw [show sU 0 (List.replicate 512 0) = 256 by decide +kernel]
  simp only [if_true]
  rw [Seal_eq _ hz]
  simp only [Option.bind_some]
  refine Ev.bind (Right_eq _ (sealF_bytes _ hz) (by rw [sealF_length]; omega)) ?_
  rw [show rightF (sealF (List.replicate 512 0)) = true by decide +kernel]
  simp only [if_true]
  refine Ev.bind (Right_eq _ hz (by rw [List.length_replicate]; omega)) ?_
  rw [show rightF (List.replicate 512 0) = false by decide +kernel]
  simp only [Bool.false_eq_true, if_false]
  rw [Zero_eq, show zeroF (List.replicate 512 0) = true by decide +kernel]
  simp only [Option.bind_some, if_true]
  rw [if_pos (by rw [List.length_replicate]; omega), Zero_eq, show zeroF ((List.replicate 512 0).take 511) = false by decide +kernel]
  exact Ev.now _

/-! ### a block of choices -/
theorem blockLoop (l : List Int) (n : Int) (hb : Bytes l) (hl : l.length ≤ 140737488351232) (h0 : 0 ≤ n) (h1 : n < 256) : ∀ (d i : Nat) (x : List Int), l.length - i = d → i ≤ l.length → x.length = 512 → Bytes x →
    ∃ y, Ev (fun k => mudlarklaw05_Block.l0 k l n x (i : Int)) y ∧ y.length = 512 ∧ Bytes y
  | 0, i, x, hd, hi, hx, hxb => by
    refine ⟨x, Ev.step (f := fun _ => some x) (fun k => ?_) (Ev.now _), hx, hxb⟩
    simp only [mudlarklaw05_Block.l0]
    rw [if_neg (by omega)]
  | d + 1, i, x, hd, hi, hx, hxb => by
    have hlt : i < l.length := by omega
    have hc := hb l[i] (List.getElem_mem _)
    obtain ⟨m, hm⟩ : ∃ m, m = Int.tmod (wrap64 (wrap64 n + wrap64 (37 * (i : Int)))) 512 := ⟨_, rfl⟩
    have hm2 : 0 ≤ m ∧ m < 512 := by
      rw [hm, wrap64_id (37 * (i : Int)) (by omega) (by omega), wrap64_id n (by omega) (by omega), wrap64_id (n + 37 * (i : Int)) (by omega) (by omega)]
      exact ⟨Int.tmod_nonneg _ (by omega), Int.tmod_lt_of_pos _ (by omega)⟩
    have e5 : wrap64 ((i : Int) + 1) = ((i + 1 : Nat) : Int) := by rw [wrap64_id _ (by omega) (by omega)]; push_cast; rfl
    obtain ⟨y, hy, hy5, hyb⟩ := blockLoop l n hb hl h0 h1 d (i + 1) (x.set m.toNat l[i]) (by omega) (by omega) (by rw [List.length_set, hx]) (hxb.set _ _ hc)
    have c1 : (i : Int) < (l.length : Int) := by omega
    have c2 : (0 : Int) ≤ (i : Int) := by omega
    have c3 : m < (x.length : Int) := by rw [hx]; exact hm2.2
    refine ⟨y, Ev.step (fun k => ?_) hy, hy5, hyb⟩
    simp only [mudlarklaw05_Block.l0]
    rw [← hm, if_pos c1, if_pos c2, if_pos hm2.1, if_pos c3, rd_at l i hlt, e5]
theorem Block_ev (l : List Int) (n : Int) (hb : Bytes l) (hl : l.length * 1 ≤ 140737488351232) (h0 : 0 ≤ n ∧ n < 256) : ∃ y, Ev (fun k => mudlarklaw05_Block.f k l n) y ∧ y.length = 512 ∧ Bytes y := by
  obtain ⟨y, hy, h1, h2⟩ := blockLoop l n hb (by omega) h0.1 h0.2 l.length 0 (List.replicate 512 0) (by omega) (by omega) (by rw [List.length_replicate]) (Bytes.replicate 512)
  refine ⟨y, Ev.congr (fun k => ?_) hy, h1, h2⟩
  unfold mudlarklaw05_Block.f
  rw [if_pos (by decide)]
  rfl

/-! ### the sum's parts: ahead of the field, the field, behind it -/
theorem sU_low : ∀ (l : List Int) (i : Nat), i + l.length ≤ 148 → sU i l = l.sum
  | [], _, _ => rfl
  | c :: t, i, h => by
    rw [List.length_cons] at h
    simp only [sU, List.sum_cons]
    rw [if_neg (by omega), sU_low t (i + 1) (by omega)]
theorem sU_high : ∀ (l : List Int) (i : Nat), 156 ≤ i → sU i l = l.sum
  | [], _, _ => rfl
  | c :: t, i, h => by
    simp only [sU, List.sum_cons]
    rw [if_neg (by omega), sU_high t (i + 1) (by omega)]
theorem sU_mid : ∀ (l : List Int) (i : Nat), 148 ≤ i → i + l.length ≤ 156 → sU i l = 32 * l.length
  | [], _, _, _ => rfl
  | c :: t, i, h, h2 => by
    rw [List.length_cons] at h2
    simp only [sU, List.length_cons]
    rw [if_pos (by omega), sU_mid t (i + 1) (by omega) (by omega)]
    push_cast
    omega
theorem sU_append : ∀ (a b : List Int) (i : Nat), sU i (a ++ b) = sU i a + sU (i + a.length) b
  | [], b, i => by simp [sU]
  | c :: t, b, i => by
    simp only [List.cons_append, sU, List.length_cons]
    rw [sU_append t b (i + 1), show i + 1 + t.length = i + (t.length + 1) by omega]
    omega
theorem sU_parts (a f b : List Int) (ha : a.length = 148) (hf : f.length = 8) : sU 0 (a ++ f ++ b) = a.sum + 256 + b.sum := by
  rw [sU_append, sU_append, sU_low a 0 (by omega), sU_mid f _ (by omega) (by omega), sU_high b _ (by rw [List.length_append]; omega), hf]
  rfl
theorem split512 (l : List Int) (h : l.length = 512) : l = l.take 148 ++ (l.drop 148).take 8 ++ l.drop 156 := by
  conv => lhs; rw [← List.take_append_drop 148 l, ← List.take_append_drop 8 (l.drop 148), List.drop_drop]
  rw [List.append_assoc]
theorem sU_512 (l : List Int) (h : l.length = 512) : sU 0 l = (l.take 148).sum + 256 + (l.drop 156).sum := by
  conv => lhs; rw [split512 l h]
  exact sU_parts _ _ _ (by rw [List.length_take]; omega) (by rw [List.length_take, List.length_drop]; omega)

/-! ### what is sealed is right -/
theorem octLoop_digs : ∀ (m : Nat) (n acc : Int) (rest : List Int), 0 ≤ n → n < 8 ^ m → 0 ≤ acc → acc * 8 ^ m + n ≤ 4611686018427387904 → octLoop (digs m n ++ rest) acc = octLoop rest (acc * 8 ^ m + n)
  | 0, n, acc, rest, h0, h1, h2, h3 => by
    have : n = 0 := by simp at h1; omega
    subst this
    simp [digs]
  | m + 1, n, acc, rest, h0, h1, h2, h3 => by
    have e8 : (8 : Int) ^ (m + 1) = 8 * 8 ^ m := by rw [Int.pow_succ']
    have hp : (0 : Int) < 8 ^ m := Int.pow_pos (by omega)
    rw [e8] at h1 h3
    have hq : acc * (8 * 8 ^ m) = 8 * (acc * 8 ^ m) := by rw [Int.mul_left_comm]
    rw [hq] at h3
    have hnn : 0 ≤ acc * 8 ^ m := Int.mul_nonneg h2 (Int.le_of_lt hp)
    have hdiv : n / 8 < 8 ^ m := by omega
    have ih := octLoop_digs m (n / 8) acc ([48 + n % 8] ++ rest) (by omega) hdiv h2 (by omega)
    simp only [digs, List.append_assoc]
    rw [ih, List.singleton_append, octLoop]
    rw [if_pos (by omega), if_neg (by omega), e8, hq]
    congr 1
    omega
theorem octF_digs (m : Nat) (n : Int) (h0 : 0 ≤ n) (hm : 0 < m) (h1 : n < 8 ^ m) (h2 : n ≤ 4611686018427387904) (rest : List Int) (hr : rest.all blankB = true) : octF (digs m n ++ rest) = (n, true) := by
  unfold octF
  have hne : digs m n ++ rest ≠ [] := by
    intro e
    have := congrArg List.length e
    rw [List.length_append, digs_length] at this
    simp at this
    omega
  have hhead : (digs m n ++ rest).dropWhile (fun x => decide (x = 32)) = digs m n ++ rest := by
    cases m with
    | zero => omega
    | succ m =>
      cases e : digs (m + 1) n with
      | nil => have := digs_length (m + 1) n; rw [e] at this; simp at this
      | cons c t =>
        have hc : 48 ≤ c := by
          have : ∀ (m : Nat) (n : Int), ∀ x ∈ digs m n, 48 ≤ x := by
            intro m
            induction m with
            | zero => intro n x hx; simp [digs] at hx
            | succ m ih =>
              intro n x hx
              simp only [digs, List.mem_append, List.mem_singleton] at hx
              rcases hx with hx | rfl
              · exact ih _ x hx
              · omega
          exact this (m + 1) n c (by rw [e]; simp)
        rw [List.cons_append, List.dropWhile_cons_of_neg]
        simp
        omega
  rw [hhead, octLoop_digs m n 0 rest h0 h1 (by omega) (by omega), Int.zero_mul, Int.zero_add]
  rw [octLoop_other rest n]
  · simp only [octRes, hr, if_true]
  · cases rest with
    | nil => exact .inl rfl
    | cons c t =>
      rw [List.all_cons, Bool.and_eq_true] at hr
      have hc := hr.1
      unfold blankB at hc
      simp at hc
      refine .inr (.inl ?_)
      show c < 48
      omega
theorem told_seal (l : List Int) (hb : Bytes l) : toldF (sealF l) = (sU 0 (padF l), true) := by
  have hsb := sU_bound (padF l) 0 (padF_bytes l hb)
  have hpl := padF_length l
  unfold toldF
  rw [if_pos (sealF_length l)]
  have e : ((sealF l).take 156).drop 148 = digs 6 (sU 0 (padF l)) ++ [0, 32] := by
    unfold sealF
    have h1 : ((padF l).take 148).length = 148 := by rw [List.length_take]; omega
    have h2 : ((padF l).take 148 ++ (digs 6 (sU 0 (padF l)) ++ [0]) ++ [32]).length = 156 := by
      rw [List.length_append, List.length_append, List.length_append, h1, digs_length]; rfl
    rw [List.take_append_of_le_length (by omega), List.take_of_length_le (by omega), List.append_assoc, List.drop_append_of_le_length (by omega), List.drop_eq_nil_of_le (by omega)]
    simp
  rw [e]
  have e6 : (8 : Int) ^ 6 = 262144 := by decide
  exact octF_digs 6 _ hsb.1 (by omega) (by rw [e6]; omega) (by omega) [0, 32] (by decide)
theorem sU_seal (l : List Int) : sU 0 (sealF l) = sU 0 (padF l) := by
  have hpl := padF_length l
  rw [sU_512 (padF l) hpl]
  unfold sealF
  rw [List.append_assoc ((padF l).take 148)]
  exact sU_parts _ _ _ (by rw [List.length_take]; omega) (by rw [List.length_append, List.length_append, digs_length]; rfl)
theorem right_seal (l : List Int) (hb : Bytes l) : rightF (sealF l) = true := by
  unfold rightF
  rw [told_seal l hb, sU_seal l]
  simp
end Go.Proofs.YtmhomfhdelocjaaDoor.P
