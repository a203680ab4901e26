/- A row of bytes that a conversion of a text has laid (it bears the conversion's mark): what it is, and what keeps it, in the print's words. No conditions. -/
import Derived.Test.YtcbeehchhhoeeaaDoorPx0
import Derived.Lib.ConvBytes
namespace Go.Proofs.YtcbeehchhhoeeaaDoor.P
open Go Go.RowKit Go.Lib Go.Proofs Go.Proofs.YtcbeehchhhoeeaaDoorW.PrintWords Go.Proofs.YtcbeehchhhoeeaaDoorW.PrintLast Go.Proofs.YtcbeehchhhoeeaaDoorW.PrintMore
set_option linter.unusedVariables false
set_option linter.unusedSimpArgs false

/-- The block of such a row. -/
def MarkRow (w : World) (g cap : Nat) (xs : List Int) : Prop :=
  ∃ cells : Array Value, w.heap[g]? = some (.cells cells 5 (cells.size, cells.size + 1)) ∧ cells.size = cap ∧ ∀ (j : Nat) (x : Int), xs[j]? = some x → cells[j]? = some (Value.int .u8 x)
def Kd.Z (w : World) (base : Nat) (ok : Nat → Prop) (v : Value) (xs : List Int) : Prop :=
  (∀ k, v.ownBlock = some k → ok k) ∧ ((v = .slice none 0 0 ∧ xs = []) ∨ ∃ g cap, v = .slice (some ⟨g, 0, none⟩) xs.length cap ∧ base ≤ g ∧ g < w.heap.size ∧ xs.length ≤ cap ∧ cap ≤ 9223372036854775807 ∧ MarkRow w g cap xs)
section
variable {w w1 W : World} {base e b2 : Nat} {ok ok' : Nat → Prop} {u v : Value} {xs : List Int} {A : Option Addr} {n c : Nat}
theorem mark_below {g cap : Nat} (h : MarkRow w g cap xs) (hg : g < w.heap.size) (hb : Below w.heap.size w w1) : MarkRow w1 g cap xs := by
  obtain ⟨cells, h1, h2, h3⟩ := h
  exact ⟨cells, by rw [hb.block g hg]; exact h1, h2, h3⟩
theorem Kd.Z_below (h : Kd.Z w base ok v xs) (hb : Below w.heap.size w w1) : Kd.Z w1 base ok v xs := by
  obtain ⟨h0, h | ⟨g, cap, he, hg, hl, hn, hc, hm⟩⟩ := h
  · exact ⟨h0, .inl h⟩
  · exact ⟨h0, .inr ⟨g, cap, he, hg, Nat.lt_of_lt_of_le hl hb.size, hn, hc, mark_below hm hl hb⟩⟩
theorem Kd.Z_lower {base' : Nat} (h : Kd.Z w base ok v xs) (hb : base' ≤ base) : Kd.Z w base' ok v xs := by
  obtain ⟨h0, h | ⟨g, cap, he, hg, r⟩⟩ := h
  · exact ⟨h0, .inl h⟩
  · exact ⟨h0, .inr ⟨g, cap, he, Nat.le_trans hb hg, r⟩⟩
theorem Kd.Z_reads (h : Kd.Z w base ok v xs) : ∃ A c, v = .slice A xs.length c ∧ xs.length ≤ c ∧ (Kd.int .u8).C w A xs.length xs := by
  obtain ⟨h0, ⟨rfl, rfl⟩ | ⟨g, cap, he, hg, hl, hn, hc, cells, h1, h2, h3⟩⟩ := h
  · exact ⟨none, 0, rfl, Nat.le_refl _, Kd.C_nil _ _⟩
  · refine ⟨_, cap, he, hn, rfl, by omega, fun _ => ⟨_, rfl, fun j p hj => ⟨[.int .u8 p], rfl, rfl, fun i u hu => ?_⟩⟩⟩
    cases i with
    | zero =>
      obtain rfl : u = .int .u8 p := by simpa using hu.symm
      have e1 : (⟨g, 0, none⟩ : Addr).add (j * (Kd.int .u8).sz + 0) = ⟨g, j, none⟩ := by
        rw [show (Kd.int .u8).sz = 1 from rfl, Nat.mul_one, Nat.add_zero, add_plain]
      rw [e1]
      unfold World.cell?
      simp only [h1, h3 j p hj]
      rfl
    | succ i => simp at hu
theorem Kd.Z_slice (h : Kd.Z w base ok v xs) : ∃ A c, v = .slice A xs.length c := by
  obtain ⟨A, c, he, _⟩ := Kd.Z_reads h
  exact ⟨A, c, he⟩
theorem Kd.Z_reads' (h : Kd.Z w base ok (.slice A n c) xs) : n = xs.length ∧ n ≤ c ∧ (Kd.int .u8).C w A xs.length xs := by
  obtain ⟨A', c', he, hl, hr⟩ := Kd.Z_reads h
  injection he with h1 h2 h3
  subst h1 h2 h3
  exact ⟨rfl, hl, hr⟩
theorem Kd.Z_lt (h : Kd.Z w base ok v xs) : ∀ k, v.ownBlock = some k → k < w.heap.size := by
  obtain ⟨h0, ⟨rfl, rfl⟩ | ⟨g, cap, rfl, hg, hl, _⟩⟩ := h
  · intro k hk; simp [Value.ownBlock] at hk
  · intro k hk
    have : g = k := by simpa [Value.ownBlock] using hk
    omega
theorem Kd.Z_base (h : Kd.Z w base ok v xs) : ∀ k, v.ownBlock = some k → base ≤ k := by
  obtain ⟨h0, ⟨rfl, rfl⟩ | ⟨g, cap, rfl, hg, hl, _⟩⟩ := h
  · intro k hk; simp [Value.ownBlock] at hk
  · intro k hk
    have : g = k := by simpa [Value.ownBlock] using hk
    omega
theorem Kd.Z_ok (h : Kd.Z w base ok v xs) (h2 : ∀ k, v.ownBlock = some k → ok' k) : Kd.Z w base ok' v xs := ⟨h2, h.2⟩
theorem Kd.Z_elder' (hu : Kd.Z W base ok u xs) (hbase : ∀ k, v.ownBlock = some k → W.heap.size ≤ k) (hb : Below W.heap.size W w1) : Kd.Z w1 base (fun k => ok k ∧ some k ≠ v.ownBlock) u xs :=
  Kd.Z_ok (Kd.Z_below hu hb) (fun k hk => ⟨hu.1 k hk, fun he => by have := hbase k he.symm; have := Kd.Z_lt hu k hk; omega⟩)
theorem Kd.Z_new' (h : Kd.Z w1 W.heap.size ok v xs) (hlt : ∀ k, u.ownBlock = some k → k < W.heap.size) : Kd.Z w1 W.heap.size (fun k => ok k ∧ some k ≠ u.ownBlock) v xs :=
  Kd.Z_ok h (fun k hk => ⟨h.1 k hk, fun he => by have := hlt k he.symm; have := Kd.Z_base h k hk; omega⟩)
theorem Kd.Z_alloc (h : Kd.Z w base ok v xs) (o : Obj) : Kd.Z (w.alloc o) base ok v xs := Kd.Z_below h (below_alloc (Below.refl _ _) o)
theorem Kd.Z_drew (h : Kd.Z w base ok v xs) : Kd.Z w.drew base ok v xs := Kd.Z_below h (below_drew (Below.refl _ _))
theorem Kd.Z_drewN (h : Kd.Z w base ok v xs) (m : Nat) : Kd.Z (w.drewN m) base ok v xs := Kd.Z_below h (pw_below_drewN (Below.refl _ _) m)
theorem Kd.Z_nil (w : World) (base : Nat) (ok : Nat → Prop) : Kd.Z w base ok (.slice none 0 0) [] := ⟨fun k hk => by simp [Value.ownBlock] at hk, .inl ⟨rfl, rfl⟩⟩
theorem ints_C (h : (Kd.int .u8).C w A n xs) : ReadsInt w .u8 A n xs := by
  refine ⟨h.1, h.2.1, fun hn => ?_⟩
  obtain ⟨ad, e, hc⟩ := h.2.2 hn
  refine ⟨ad, e, fun j hj => ?_⟩
  obtain ⟨c, hs, hr, hcell⟩ := hc j (xs.getD j 0) (by have := h.1; rw [List.getD_eq_getElem?_getD, List.getElem?_eq_getElem (by omega)]; rfl)
  have e2 : c = [.int .u8 (xs.getD j 0)] := hr
  have := hcell 0 (.int .u8 (xs.getD j 0)) (by rw [e2]; rfl)
  rw [show j * (Kd.int .u8).sz + 0 = j by rw [show (Kd.int .u8).sz = 1 from rfl]; omega] at this
  exact this
theorem Kd.Z_string {P : Program} {src dst e : TypeId} (hs : P.underlying src = some (.slice e)) (he : P.underlying e = some (.int .u8)) (hd : P.underlying dst = some .string) (h : Kd.Z w base ok v xs) : (convert src dst v).run P w = .ok (.string (strOfNums xs)) w := by
  obtain ⟨A, c, rfl, hl, hr⟩ := Kd.Z_reads h
  exact string_of_reads hs he hd (ints_C hr)
/-- What '[]byte(s)' lays. -/
theorem Kd.Z_bytes (w : World) (s : ByteArray) (hs : s.size ≤ 9223372036854775807) : Kd.Z (Lib.bytesWorld w 5 s) w.heap.size (fun _ => True) (.slice (some ⟨w.heap.size, 0, none⟩) (bytesOf s).length (grownCap w s.size 0 5)) (bytesOf s) := by
  have hcap := grownCap_ge w s.size 0 5
  have hmax := grownCap_le_maxLen w s.size 0 5 (by simpa [maxLen] using hs)
  refine ⟨fun _ _ => trivial, .inr ⟨w.heap.size, grownCap w s.size 0 5, rfl, Nat.le_refl _, by rw [Lib.bytesWorld_size]; omega, by rw [bytesOf_length]; exact hcap, by simpa [maxLen] using hmax, bytesCells w 5 s, Lib.bytesWorld_at_new w 5 s, ?_, fun j x hj => ?_⟩⟩
  · unfold bytesCells
    rw [Array.size_append, Array.size_replicate, Array.size_map]
    have : s.data.size = s.size := rfl
    omega
  · have hjl : j < (bytesOf s).length := (List.getElem?_eq_some_iff.1 hj).1
    have hx := (List.getElem?_eq_some_iff.1 hj).2
    rw [bytesOf_length] at hjl
    unfold bytesCells
    rw [Array.getElem?_append_left (by rw [Array.size_map]; exact hjl), Array.getElem?_map, Array.getElem?_eq_getElem (show j < s.data.size from hjl)]
    rw [← hx]
    simp [bytesOf]
theorem Kd.Z_form (h : Kd.Z w base ok v xs) (hp : 0 < xs.length) : ∃ g cap, v = .slice (some ⟨g, 0, none⟩) xs.length cap ∧ base ≤ g ∧ g < w.heap.size ∧ ∃ cells : Array Value, w.heap[g]? = some (.cells cells 5 (cells.size, cells.size + 1)) := by
  obtain ⟨h0, ⟨rfl, rfl⟩ | ⟨g, cap, he, hg, hl, hn, hc, cells, h1, h2, h3⟩⟩ := h
  · simp at hp
  · exact ⟨g, cap, he, hg, hl, cells, h1⟩
theorem Kd.Z_block {g : Nat} (h : Kd.Z w base ok (.slice (some ⟨g, 0, none⟩) n c) xs) : n = xs.length ∧ base ≤ g ∧ g < w.heap.size ∧ xs.length ≤ c ∧ c ≤ 9223372036854775807 ∧ MarkRow w g c xs := by
  obtain ⟨h0, ⟨he, rfl⟩ | ⟨g', cap, he, hg, hl, hn, hc, hm⟩⟩ := h
  · injection he with he; cases he
  · injection he with e1 e2 e3
    subst e2 e3
    obtain rfl : g = g' := by simpa using e1
    exact ⟨rfl, hg, hl, hn, hc, hm⟩
theorem Kd.Z_celln (d : Int) {g : Nat} (h : Kd.Z w base ok (.slice (some ⟨g, 0, none⟩) n c) xs) (i : Int) (h0 : 0 ≤ i) (hi : i < n) : w.cell? ⟨g, i.toNat, none⟩ = some (.int .u8 (rdOf d xs i)) ∧ w.frozen? ⟨g, i.toNat, none⟩ = false := by
  obtain ⟨rfl, hg, hl, hn, hc, cells, h1, h2, h3⟩ := Kd.Z_block h
  have hi2 : i.toNat < xs.length := by omega
  have h4 := h3 i.toNat xs[i.toNat] (List.getElem?_eq_getElem hi2)
  constructor
  · unfold World.cell?
    simp only [h1, h4]
    unfold rdOf
    rw [List.getD_eq_getElem?_getD, List.getElem?_eq_getElem hi2]
    rfl
  · unfold World.frozen?
    simp only [h1]
    have : ¬ cells.size ≤ i.toNat := by omega
    simp [this]
theorem Kd.Z_putg {g : Nat} (h : Kd.Z w base ok (.slice (some ⟨g, 0, none⟩) n c) xs) (i : Int) (x : Int) : Kd.Z (w.setCell ⟨g, i.toNat, none⟩ (.int .u8 x)) base ok (.slice (some ⟨g, 0, none⟩) n c) (xs.set i.toNat x) ∧ w.grownBy (w.setCell ⟨g, i.toNat, none⟩ (.int .u8 x)) (some g) := by
  obtain ⟨rfl, hg, hl, hn, hc, cells, h1, h2, h3⟩ := Kd.Z_block h
  constructor
  · refine ⟨h.1, .inr ⟨g, c, by rw [List.length_set], hg, by simpa [World.setCell] using hl, by rw [List.length_set]; exact hn, hc, cells.setIfInBounds i.toNat (.int .u8 x), ?_, by rw [Array.size_setIfInBounds]; exact h2, fun j y hj => ?_⟩⟩
    · simp [World.setCell, Array.getElem?_modify, h1]
    · rw [List.getElem?_set] at hj
      rw [Array.getElem?_setIfInBounds]
      by_cases e : i.toNat = j
      · rw [if_pos e] at hj ⊢
        by_cases hl2 : i.toNat < xs.length
        · rw [if_pos hl2] at hj
          rw [if_pos (by omega)]
          obtain rfl := Option.some.inj hj
          rfl
        · rw [if_neg hl2] at hj; cases hj
      · rw [if_neg e] at hj ⊢
        exact h3 j y hj
  · exact ⟨rfl, rfl, rfl, by simp [World.setCell], fun k _ hk => Below.heap_setCell _ _ _ _ (fun e => hk (by simp [e]))⟩
/-- Another row is none of the marked ones. -/
theorem Kd.Z_over' {α : Type} {d : Kd α} {e : Nat} {ys : List α} (h : d.R e W base ok u ys) (hz : Kd.Z W b2 ok' v xs) (hg : W.grownBy w1 v.ownBlock) : d.R e w1 base ok u ys := by
  refine Kd.R_mono (Kd.R_move (Kd.R_bound h) (fun k hk => hg.block k hk.2.2.1 (fun he => ?_))) (fun _ hk => hk.1)
  obtain ⟨_, _, _, q, hq, cells, hc⟩ := hk
  obtain ⟨h0, ⟨rfl, rfl⟩ | ⟨g, cap, rfl, hgb, hl, hn, hcc, cells', h1, h2, h3⟩⟩ := hz
  · simp [Value.ownBlock] at he
  · obtain rfl : k = g := by simpa [Value.ownBlock] using he
    rw [hc] at h1
    injection h1 with h1
    injection h1 with _ _ h1
    have := congrArg Prod.snd h1
    simp at this
end
end Go.Proofs.YtcbeehchhhoeeaaDoor.P
