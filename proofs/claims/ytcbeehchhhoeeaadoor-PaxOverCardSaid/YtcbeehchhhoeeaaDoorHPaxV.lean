/- The records of choices, as lists; whether two rows of records are the same. No conditions. -/
import Derived.Test.YtcbeehchhhoeeaaDoorPx3
import Derived.Test.YtcbeehchhhoeeaaDoorHPaxP
namespace Go.Proofs.YtcbeehchhhoeeaaDoor.P
open Go Go.RowKit Go.Lib Go.Proofs Go.Proofs.YtcbeehchhhoeeaaDoorW.PrintWords Go.Proofs.YtcbeehchhhoeeaaDoorW.PrintLast Go.Proofs.YtcbeehchhhoeeaaDoorW.PrintMore
set_option linter.unusedVariables false
set_option linter.unusedSimpArgs false

/-! ### Choices -/
def piece : Nat → List UInt8
  | 0 => [97]
  | 1 => [10]
  | 2 => [61]
  | 3 => [32]
  | 4 => [48]
  | _ => [195, 169]
def keyC : Nat → List UInt8
  | 0 => [97]
  | 1 => [98, 46, 99]
  | 2 => [112, 97, 116, 104]
  | 3 => [117, 105, 100]
  | _ => [122, 122]
def vG (b : Nat) : Nat → List UInt8
  | 0 => []
  | m + 1 => vG b m ++ piece ((b + m) % 6)
def natAt (c : List Int) (i : Nat) : Nat := (rd c (i : Int)).toNat
def recC (c : List Int) (i : Nat) : S41 := ⟨tx (keyC (natAt c i % 5)), tx (vG (natAt c (i + 1)) (natAt c (i + 1) % 13))⟩
def recsG (c : List Int) (n : Nat) : Nat → Nat → List S41
  | 0, _ => []
  | r + 1, i => if i + 1 < c.length ∧ i < 2 * n then recC c i :: recsG c n r (i + 2) else []
def recsL (c : List Int) (n : Nat) : List S41 := recsG c n n 0
theorem piece_len (q : Nat) : (piece q).length ≤ 2 := by unfold piece; split <;> simp
theorem piece_ok (q : Nat) : ∀ b ∈ piece q, b.toNat ≠ 0 := by unfold piece; split <;> decide
theorem vG_len (b : Nat) : ∀ m, (vG b m).length ≤ 2 * m
  | 0 => by simp [vG]
  | m + 1 => by
    have := vG_len b m
    have := piece_len ((b + m) % 6)
    rw [vG, List.length_append]
    omega
theorem vG_ok (b : Nat) : ∀ m, ∀ x ∈ vG b m, x.toNat ≠ 0
  | 0 => by simp [vG]
  | m + 1 => fun x hx => by
    rw [vG, List.mem_append] at hx
    exact hx.elim (vG_ok b m x) (piece_ok _ x)
theorem keyC_ok (q : Nat) : (keyC q).all okb = true ∧ keyC q ≠ [] ∧ (keyC q).length ≤ 4 := by unfold keyC; split <;> decide
theorem okR_of (k v : List UInt8) (h1 : k.all okb = true) (h2 : k ≠ []) (h3 : ∀ x ∈ v, x.toNat ≠ 0) : okR k v = true := by
  unfold okR
  rw [h1, decide_eq_true h2, Bool.and_true, Bool.true_and, List.all_eq_true]
  exact fun x hx => decide_eq_true (h3 x hx)
theorem recC_ok (c : List Int) (i : Nat) : recOk (recC c i) = true :=
  okR_of _ _ (keyC_ok (natAt c i % 5)).1 (keyC_ok (natAt c i % 5)).2.1 (vG_ok _ _)
theorem recC_len (c : List Int) (i : Nat) : (recC c i).f0.data.toList.length ≤ 4 ∧ (recC c i).f1.data.toList.length ≤ 24 := by
  have h1 := (keyC_ok (natAt c i % 5)).2.2
  have h2 := vG_len (natAt c (i + 1)) (natAt c (i + 1) % 13)
  exact ⟨h1, by show (vG (natAt c (i + 1)) (natAt c (i + 1) % 13)).length ≤ 24; have := Nat.mod_lt (natAt c (i + 1)) (show 13 > 0 by omega); omega⟩
theorem recsG_of (c : List Int) (n : Nat) : ∀ (r i : Nat), (recsG c n r i).length ≤ r ∧ ∀ p ∈ recsG c n r i, ∃ j, p = recC c j
  | 0, i => by simp [recsG]
  | r + 1, i => by
    unfold recsG
    split
    · obtain ⟨h1, h2⟩ := recsG_of c n r (i + 2)
      refine ⟨by rw [List.length_cons]; omega, fun p hp => ?_⟩
      rcases List.mem_cons.1 hp with rfl | hp
      · exact ⟨i, rfl⟩
      · exact h2 p hp
    · simp
/-- What is true of records of choices. -/
def SmallRec (p : S41) : Prop := recOk p = true ∧ p.f0.data.toList.length ≤ 4 ∧ p.f1.data.toList.length ≤ 24
theorem recsL_small (c : List Int) (n : Nat) : (recsL c n).length ≤ n ∧ ∀ p ∈ recsL c n, SmallRec p := by
  obtain ⟨h1, h2⟩ := recsG_of c n n 0
  refine ⟨h1, fun p hp => ?_⟩
  obtain ⟨j, rfl⟩ := h2 p hp
  exact ⟨recC_ok c j, recC_len c j⟩
theorem rd_u8 (c : List Int) (hc : ∀ x ∈ c, (Lit.int .u8 x).wf = true) (i : Nat) (h : i < c.length) : rd c (i : Int) = (natAt c i : Int) ∧ natAt c i < 256 := by
  have hm : rd c (i : Int) ∈ c := by
    unfold rd
    rw [Int.toNat_natCast, List.getD_eq_getElem?_getD, List.getElem?_eq_getElem h]
    exact List.getElem_mem h
  have hw := hc _ hm
  simp [Lit.wf, IntKind.min, IntKind.max, IntKind.signed, IntKind.bits] at hw
  unfold natAt
  omega
theorem look_piece (q : Nat) (h : q < 6) : rdOf ByteArray.empty ([(⟨#[97]⟩ : ByteArray), (⟨#[10]⟩ : ByteArray), (⟨#[61]⟩ : ByteArray), (⟨#[32]⟩ : ByteArray), (⟨#[48]⟩ : ByteArray), (⟨#[195, 169]⟩ : ByteArray)] : List ByteArray) (q : Int) = tx (piece q) := by
  have : q = 0 ∨ q = 1 ∨ q = 2 ∨ q = 3 ∨ q = 4 ∨ q = 5 := by omega
  rcases this with rfl | rfl | rfl | rfl | rfl | rfl <;> rfl
theorem look_key (q : Nat) (h : q < 5) : rdOf ByteArray.empty ([(⟨#[97]⟩ : ByteArray), (⟨#[98, 46, 99]⟩ : ByteArray), (⟨#[112, 97, 116, 104]⟩ : ByteArray), (⟨#[117, 105, 100]⟩ : ByteArray), (⟨#[122, 122]⟩ : ByteArray)] : List ByteArray) (q : Int) = tx (keyC q) := by
  have : q = 0 ∨ q = 1 ∨ q = 2 ∨ q = 3 ∨ q = 4 := by omega
  rcases this with rfl | rfl | rfl | rfl | rfl <;> rfl
theorem tmod_nat (a b : Nat) : Int.tmod (a : Int) (b : Int) = ((a % b : Nat) : Int) := by
  rw [Int.tmod_eq_emod_of_nonneg (by omega)]
  omega
theorem n13 (z : Nat) (h : z < 256) : wrap64 (Int.tmod (z : Int) 13) = ((z % 13 : Nat) : Int) := by
  rw [show ((13 : Int)) = ((13 : Nat) : Int) from rfl, tmod_nat, wrap64_id _ (by omega) (by omega)]
theorem n6 (z kk : Nat) (h : z < 256) (hk : kk < 1000) : Int.tmod (wrap64 ((wrap64 (z : Int)) + (kk : Int))) 6 = (((z + kk) % 6 : Nat) : Int) := by
  rw [wrap64_id (z : Int) (by omega) (by omega), wrap64_id _ (by omega) (by omega), show (z : Int) + (kk : Int) = ((z + kk : Nat) : Int) by omega, show ((6 : Int)) = ((6 : Nat) : Int) from rfl, tmod_nat]
theorem recs_l1 (c : List Int) (hcl : c.length ≤ 140737488351232) (n : Int) (acc : List S41) (hacc : acc.length < 4398046511104) (i : Nat) (hi : i + 1 < c.length) (z0 z1 : Nat) (E1 : Aside0 (rd c ((i + 1 : Nat) : Int) = (z1 : Int))) (E0 : Aside0 (rd c (i : Int) = (z0 : Int))) (g0 : z0 < 256) (g1 : z1 < 256) : ∀ (f m kk : Nat), kk + m = z1 % 13 → m + 1 ≤ f →
    mudlarklaw03_Recs.l1 f c n acc (i : Int) (tx (vG z1 kk)) (kk : Int) = mudlarklaw03_Recs.l0 (f - m - 1) c n (acc ++ [⟨tx (keyC (z0 % 5)), tx (vG z1 (z1 % 13))⟩]) ((i + 2 : Nat) : Int) := by
  intro f
  induction f with
  | zero => intro m kk hm hf; exact (Nat.not_succ_le_zero _ hf).elim
  | succ f ih =>
    intro m kk hm hf
    have hv := vG_len z1 kk
    have hp := piece_len ((z1 + kk) % 6)
    have hm13 : kk < 1000 := by have := Nat.mod_lt z1 (show 13 > 0 by omega); omega
    have n1 := Aside0.mk (next_i i (by omega))
    have h13 := Aside0.mk (n13 z1 g1)
    have h6 := Aside0.mk (n6 z1 kk g1 hm13)
    have h5' : Int.tmod ((z0 : Nat) : Int) 5 = ((z0 % 5 : Nat) : Int) := by rw [show ((5 : Int)) = ((5 : Nat) : Int) from rfl, tmod_nat]
    have h5 := Aside0.mk h5'
    clear h5'
    rw [mudlarklaw03_Recs.l1, n1.out, if_pos (by omega), if_pos (by omega), E1.out, h13.out]
    by_cases hk : kk < z1 % 13
    · rw [if_pos (by omega), Option.bind_some, h6.out, if_pos (by omega), if_pos (by simp; omega), look_piece _ (by omega), if_pos (by rw [tx_size, tx_size]; omega), tx_app, next_i kk (by omega)]
      have := ih (m - 1) (kk + 1) (by omega) (by omega)
      rw [vG] at this
      rw [this, show f - (m - 1) - 1 = f + 1 - m - 1 by omega]
    · have hm0 : m = 0 := by omega
      subst hm0
      rw [if_neg (by omega), Option.bind_some, if_pos (by omega), if_pos (by omega), E0.out, h5.out, if_pos (by omega), if_pos (by simp; omega), if_pos hacc, look_key _ (by omega), wrap64_id _ (by omega) (by omega)]
      rw [show f + 1 - 0 - 1 = f by omega, show ((i : Int) + 2) = ((i + 2 : Nat) : Int) by omega]
      have hkk : kk = z1 % 13 := by omega
      rw [hkk]
theorem recs_l0 (c : List Int) (hc : ∀ x ∈ c, (Lit.int .u8 x).wf = true) (hcl : c.length ≤ 140737488351232) (n : Nat) (hn : n ≤ 1000000) : ∀ (r i f : Nat) (acc : List S41), 2 * n ≤ i + 2 * r → i ≤ 2 * n + 2 → acc.length + r ≤ 2000000 → 20 * r + 5 ≤ f →
    mudlarklaw03_Recs.l0 f c (n : Int) acc (i : Int) = some (acc ++ recsG c n r i)
  | r, i, 0, acc, _, _, _, hf => (by omega : False).elim
  | r, i, 1, acc, _, _, _, hf => (by omega : False).elim
  | r, i, 2, acc, _, _, _, hf => (by omega : False).elim
  | r, i, f + 3, acc, h1, h2, h3, hf => by
    have n1 := next_i i (by omega)
    have w2 : wrap64 (2 * (n : Int)) = ((2 * n : Nat) : Int) := by rw [wrap64_id _ (by omega) (by omega)]; push_cast; rfl
    rw [mudlarklaw03_Recs.l0, n1, w2]
    cases r with
    | zero =>
      unfold recsG
      rw [List.append_nil]
      by_cases hi : ((i + 1 : Nat) : Int) < (c.length : Int)
      · rw [if_pos hi, decide_eq_false (by omega), mudlarklaw03_Recs.j1, if_neg (by simp)]
      · rw [if_neg hi, mudlarklaw03_Recs.j1, if_neg (by simp)]
    | succ r =>
      unfold recsG
      by_cases hi : ((i + 1 : Nat) : Int) < (c.length : Int)
      · rw [if_pos hi]
        by_cases hj : i < 2 * n
        · rw [decide_eq_true (by omega), mudlarklaw03_Recs.j1, if_pos rfl, if_pos ⟨by omega, hj⟩]
          have hb : natAt c (i + 1) % 13 < 13 := Nat.mod_lt _ (by omega)
          obtain ⟨e1, e2⟩ := rd_u8 c hc (i + 1) (by omega)
          obtain ⟨e3, e4⟩ := rd_u8 c hc i (by omega)
          have h4 := recs_l1 c hcl (n : Int) acc (by omega) i (by omega) (natAt c i) (natAt c (i + 1)) ⟨e1⟩ ⟨e3⟩ e4 e2 (f + 1) (natAt c (i + 1) % 13) 0 (Nat.zero_add _) (by clear e1 e3; omega)
          clear e1 e3
          rw [show (tx (vG (natAt c (i + 1)) 0)) = (⟨#[]⟩ : ByteArray) from rfl, show ((0 : Nat) : Int) = 0 from rfl] at h4
          rw [h4, show (⟨tx (keyC (natAt c i % 5)), tx (vG (natAt c (i + 1)) (natAt c (i + 1) % 13))⟩ : S41) = recC c i from rfl, recs_l0 c hc hcl n hn r (i + 2) (f + 1 - natAt c (i + 1) % 13 - 1) _ (by omega) (by omega) (by rw [List.length_append, List.length_singleton]; omega) (by omega), List.append_assoc]
          rfl
        · rw [decide_eq_false (by omega), mudlarklaw03_Recs.j1, if_neg (by simp), if_neg (fun h => hj h.2), List.append_nil]
      · rw [if_neg hi, mudlarklaw03_Recs.j1, if_neg (by simp), if_neg (fun h => hi (by omega)), List.append_nil]
  termination_by r i f => f
theorem Recs_eq (c : List Int) (hc : ∀ x ∈ c, (Lit.int .u8 x).wf = true) (hcl : c.length ≤ 140737488351232) (n : Nat) (hn : n ≤ 1000000) (f : Nat) (hf : 20 * n + 5 ≤ f) : mudlarklaw03_Recs.f f c (n : Int) = some (recsL c n) := by
  unfold mudlarklaw03_Recs.f
  have := recs_l0 c hc hcl n hn n 0 f [] (by omega) (by omega) (by rw [List.length_nil]; omega) hf
  rw [List.nil_append] at this
  exact this
/-! ### What is printed of them -/
theorem small_lines : ∀ (l : List S41), (∀ p ∈ l, SmallRec p) → (linesL l).length ≤ 47 * l.length ∧ l.all recOk = true ∧ l.all recS = true
  | [], _ => by simp [linesL]
  | p :: l, h => by
    obtain ⟨h1, h2, h3⟩ := small_lines l (fun q hq => h q (by simp [hq]))
    obtain ⟨a, b, d⟩ := h p (by simp)
    have hs : recS p = true := decide_eq_true (by rw [size_len, size_len]; omega)
    have e : linesL (p :: l) = recL p ++ linesL l := by unfold linesL; rw [List.flatMap_cons]
    have hl := recL_len p hs
    have := lnN_le p.f0.data.toList p.f1.data.toList (by omega)
    rw [e, List.length_append, List.length_cons, List.all_cons, List.all_cons, a, hs, h2, h3]
    exact ⟨by omega, rfl, rfl⟩
theorem Print_small (l : List S41) (h : ∀ p ∈ l, SmallRec p) (hl : l.length ≤ 1000) : pax_Print.f l = some (bytesOf (tx (linesL l)), 0) := by
  obtain ⟨h1, h2, h3⟩ := small_lines l h
  unfold pax_Print.f
  rw [if_pos ⟨by omega, h3, by omega⟩, if_pos h2, if_neg (by omega)]
theorem Parse_small (l : List S41) (h : ∀ p ∈ l, SmallRec p) (hl : l.length ≤ 1000) : pax_Parse.f (bytesOf (tx (linesL l))) = some (l, 0) := by
  obtain ⟨h1, h2, h3⟩ := small_lines l h
  rw [Parse_lines l h2 (by omega), if_neg (by omega)]
end Go.Proofs.YtcbeehchhhoeeaaDoor.P
