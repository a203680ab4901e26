/- append(a, b...) of bytes where a is a row that a conversion of a text has laid: what is read behind it. No conditions. -/
import Derived.Test.YtcbeehchhhoeeaaDoorHMark
import Derived.ArgAppend
import Derived.Laws.AppendOwn
namespace Go.Proofs.YtcbeehchhhoeeaaDoor.P
open Go Go.RowKit Go.Lib Go.Proofs Go.Proofs.YtcbeehchhhoeeaaDoorW.PrintWords Go.Proofs.YtcbeehchhhoeeaaDoorW.PrintLast Go.Proofs.YtcbeehchhhoeeaaDoorW.PrintMore
set_option linter.unusedVariables false
set_option linter.unusedSimpArgs false

theorem Kd.Z_move {w w1 : World} {base : Nat} {ok : Nat → Prop} {v : Value} {xs : List Int} (h : Kd.Z w base ok v xs) (hh : ∀ k, v.ownBlock = some k → w1.heap[k]? = w.heap[k]?) (hs : w.heap.size ≤ w1.heap.size) : Kd.Z w1 base ok v xs := by
  obtain ⟨h0, h | ⟨g, cap, rfl, hg, hl, hn, hc, cells, h1, h2, h3⟩⟩ := h
  · exact ⟨h0, .inl h⟩
  · exact ⟨h0, .inr ⟨g, cap, rfl, hg, Nat.lt_of_lt_of_le hl hs, hn, hc, cells, (hh g (by simp [Value.ownBlock])).trans h1, h2, h3⟩⟩
theorem Kd.Z_grown {w w1 : World} {base : Nat} {ok : Nat → Prop} {v : Value} {xs : List Int} (h : Kd.Z w base ok v xs) {row : Option Nat} (hg : w.grownBy w1 row) (hok : ∀ k, ok k → some k ≠ row) : Kd.Z w1 base ok v xs :=
  Kd.Z_move h (fun k hk => hg.block k (Kd.Z_lt h k hk) (hok k (h.1 k hk))) hg.size
theorem Kd.Z_overR {W w1 : World} {base e' : Nat} {ok : Nat → Prop} {u v : Value} {ys : List Int} (h : Kd.Z W base ok u ys) (hty : ∀ k, v.ownBlock = some k → ∃ cells, W.heap[k]? = some (.cells cells e' (0, 0))) (_ht : 5 ≠ e') (hg : W.grownBy w1 v.ownBlock) : Kd.Z w1 base ok u ys := by
  refine Kd.Z_move h (fun k hk => hg.block k (Kd.Z_lt h k hk) (fun he => ?_)) hg.size
  obtain ⟨cells, hc⟩ := hty k he.symm
  obtain ⟨_, ⟨rfl, rfl⟩ | ⟨g, cap, rfl, _, _, _, _, cells', h1, _, _⟩⟩ := h
  · simp [Value.ownBlock] at hk
  · obtain rfl : k = g := by simpa [Value.ownBlock] using hk.symm
    rw [hc] at h1
    injection h1 with h1
    injection h1 with _ _ h1
    have := congrArg Prod.snd h1
    simp at this
theorem Kd.Z_nilcap {w : World} {base n c : Nat} {ok : Nat → Prop} {A : Option Addr} {xs : List Int} (h : Kd.Z w base ok (.slice A n c) xs) : A = none → c = 0 := by
  rintro rfl
  obtain ⟨_, ⟨he, _⟩ | ⟨g, cap, he, _⟩⟩ := h
  · injection he
  · injection he with he; cases he
theorem grown_setCells (g : Nat) : ∀ (vs : List Value) (o : Nat) (w : World), w.grownBy (w.setCells g o vs) (some g)
  | [], o, w => ⟨rfl, rfl, rfl, Nat.le_refl _, fun _ _ _ => rfl⟩
  | v :: r, o, w => by
    have ih := grown_setCells g r (o + 1) (w.setCell ⟨g, o, none⟩ v)
    refine ⟨ih.os, ih.tape, ih.output, ?_, fun k hk hne => ?_⟩
    · have := ih.size
      have e : (w.setCell ⟨g, o, none⟩ v).heap.size = w.heap.size := by simp [World.setCell]
      rw [e] at this
      exact this
    · have e : (w.setCell ⟨g, o, none⟩ v).heap.size = w.heap.size := by simp [World.setCell]
      refine (ih.block k (by rw [e]; exact hk) hne).trans ?_
      exact Below.heap_setCell _ _ _ _ (fun e => hne (by simp [e]))
theorem ints_get {W : World} {A : Option Addr} {ys : List Int} (h : (Kd.int .u8).C W A ys.length ys) {ad : Addr} (hA : A = some ad) : ∀ (j : Nat) (u : Value), (ys.map (Value.int .u8))[j]? = some u → W.cell? (ad.add j) = some u := by
  intro j u hu
  rw [List.getElem?_map] at hu
  obtain ⟨x, hx, rfl⟩ := Option.map_eq_some_iff.1 hu
  have hj := (List.getElem?_eq_some_iff.1 hx).1
  obtain ⟨ad2, e, hc⟩ := h.2.2 (by omega)
  rw [hA] at e
  obtain rfl := Option.some.inj e
  obtain ⟨c, hs, hr, hcell⟩ := hc j x hx
  have e2 : c = [.int .u8 x] := hr
  have := hcell 0 (.int .u8 x) (by rw [e2]; rfl)
  rw [show j * (Kd.int .u8).sz + 0 = j by rw [show (Kd.int .u8).sz = 1 from rfl]; omega] at this
  exact this
theorem C_of_cells {W : World} {g n : Nat} {xs : List Int} (hn : n = xs.length) (hl : n ≤ 9223372036854775807) (h : ∀ j (hj : j < xs.length), W.cell? ⟨g, j, none⟩ = some (.int .u8 xs[j])) : (Kd.int .u8).C W (some ⟨g, 0, none⟩) n xs := by
  refine ⟨hn.symm, hl, fun _ => ⟨_, rfl, fun j p hj => ⟨[.int .u8 p], rfl, rfl, fun i u hu => ?_⟩⟩⟩
  cases i with
  | zero =>
    obtain rfl : u = .int .u8 p := by simpa using hu.symm
    have e1 : (⟨g, 0, none⟩ : Addr).add (j * (Kd.int .u8).sz + 0) = ⟨g, j, none⟩ := by
      rw [show (Kd.int .u8).sz = 1 from rfl, Nat.mul_one, Nat.add_zero, add_plain]
    rw [e1]
    obtain ⟨hjl, he⟩ := List.getElem?_eq_some_iff.1 hj
    rw [← he]
    exact h j hjl
  | succ i => simp at hu
set_option maxRecDepth 100000 in
theorem Z_app_run {W : World} {base : Nat} {ok : Nat → Prop} {t ty : TypeId} (ht : Tryd.prog.underlying t = some (.slice 5)) {v : Value} {xs ys : List Int} {A : Option Addr} {c : Nat} (HZ : Kd.Z W base ok v xs) (HC : (Kd.int .u8).C W A ys.length ys) (hA : A = none → c = 0) (hl : xs.length + ys.length ≤ 140737488355328) :
    ∃ A1 c1 w1, (Builtin.append_ #[t, t] ty #[v, .slice A ys.length c]).run Tryd.prog W = .ok (.slice A1 (xs ++ ys).length c1) w1 ∧ (Kd.int .u8).C w1 A1 (xs ++ ys).length (xs ++ ys) ∧ (xs ++ ys).length ≤ c1 ∧ W.grownBy w1 v.ownBlock := by
  obtain ⟨i0, hi, hz0, hz1, hz2⟩ := info_parts info5
  have hz1' : i0.size = 1 := hz1
  cases A with
  | none =>
    have hy : ys = [] := by
      rcases Nat.eq_zero_or_pos ys.length with h0 | h0
      · exact List.eq_nil_of_length_eq_zero h0
      · obtain ⟨ad, e, _⟩ := HC.2.2 h0
        cases e
    subst hy
    obtain rfl := hA rfl
    obtain ⟨A1, c1, hv, hle, hr⟩ := Kd.Z_reads HZ
    refine ⟨A1, c1, W, ?_, by rw [List.append_nil]; exact hr, by rw [List.append_nil]; exact hle, World.grownBy.refl W _⟩
    obtain ⟨_, ⟨rfl, rfl⟩ | ⟨g, cap, rfl, _, _, hn, _, _⟩⟩ := HZ
    · injection hv with e1 e2 e3
      subst e1 e3
      simp [Builtin.append_, run_underlying ht, sizeOf, typeInfo, hi, Builtin.lenOf, Builtin.firstCells]
    · injection hv with e1 e2 e3
      subst e1 e3
      simp [Builtin.append_, run_underlying ht, sizeOf, typeInfo, hi, Builtin.lenOf, Builtin.firstCells, hn, storeCells]
  | some ad =>
    have hnews := ints_get HC rfl
    have hnl : (ys.map (Value.int .u8)).length = ys.length * 1 := by rw [List.length_map, Nat.mul_one]
    have hone : ∀ u ∈ ys.map (Value.int .u8), u.oneCell' = true := by
      intro u hu
      obtain ⟨x, _, rfl⟩ := List.mem_map.1 hu
      rfl
    have own_C : ∀ {w1 : World} {b : Nat} {v1 : Value}, w1.ownsRow b 5 1 v1 (xs ++ ys).length ((xs ++ ys).map (Value.int .u8)) → ∃ A1 c1, v1 = .slice A1 (xs ++ ys).length c1 ∧ (Kd.int .u8).C w1 A1 (xs ++ ys).length (xs ++ ys) ∧ (xs ++ ys).length ≤ c1 := fun {w1 b v1} ho => by
      have hR : (Kd.int .u8).R 5 w1 b (fun _ => True) v1 (xs ++ ys) := Kd.R_of_own (enc := Value.int .u8) (h1 := fun _ => rfl) (by simpa [encs] using ho) (fun _ _ => trivial)
      obtain ⟨A1, c1, e⟩ := Kd.R_slice hR
      subst e
      obtain ⟨_, hle, hC⟩ := Kd.R_reads' hR
      exact ⟨A1, c1, rfl, hC, hle⟩
    obtain ⟨hok, ⟨rfl, rfl⟩ | ⟨g, cap, rfl, hg, hlt, hn, hc, cells, h1, h2, h3⟩⟩ := HZ
    · obtain ⟨v1, w1, hrun, r1, r2, _⟩ := run_append_own (P := Tryd.prog) W W.heap.size t ty 5 i0 (.int .u8 0) 1 1 ht hi hz0 hz1 hz2 rfl (by decide) (.slice none 0 0) 0 [] (World.ownsRow_nil W _ 5 1) ad ys.length c (ys.map (Value.int .u8)) hnl hnews hone (by simp only [maxLen]; simp at hl; omega) (by simp at hl; omega) (Nat.le_refl _)
      obtain ⟨A1, c1, rfl, hC, hle⟩ := own_C (by simpa using r1)
      exact ⟨A1, c1, w1, hrun, hC, hle, r2⟩
    · by_cases hroom : xs.length + ys.length ≤ cap
      · have hcell : ∀ j, j < cap → (W.cell? ⟨g, j, none⟩).isSome = true ∧ W.frozen? ⟨g, j, none⟩ = false := by
          intro j hj
          constructor
          · unfold World.cell?
            simp only [h1]
            rw [Array.getElem?_eq_getElem (by omega)]
            rfl
          · unfold World.frozen?
            simp only [h1]
            have : ¬ cells.size ≤ j := by omega
            simp [this]
        have hlen : (ys.map (Value.int .u8)).length = ys.length := List.length_map _
        have hrun := run_append_room_cells (P := Tryd.prog) W t ty 5 i0 ht hi g 0 xs.length cap ad ys.length c (ys.map (Value.int .u8)) (by rw [hz1', hnl]) hnews hone hroom
          (fun j hj => by rw [hz1']; exact (hcell (0 + xs.length * 1 + j) (by omega)).1) (fun j hj => by rw [hz1']; exact (hcell (0 + xs.length * 1 + j) (by omega)).2)
        rw [hz1', Nat.zero_add, Nat.mul_one] at hrun
        refine ⟨some ⟨g, 0, none⟩, cap, W.setCells g xs.length (ys.map (Value.int .u8)), by rw [List.length_append]; exact hrun, C_of_cells rfl (by rw [List.length_append]; omega) (fun j hj => ?_), by rw [List.length_append]; exact hroom, grown_setCells g _ _ _⟩
        rw [List.length_append] at hj
        rcases Nat.lt_or_ge j xs.length with hjx | hjx
        · rw [World.cell?_setCells_out g _ _ _ _ (fun _ _ => .inl hjx), List.getElem_append_left hjx]
          unfold World.cell?
          simp only [h1, h3 j xs[j] (List.getElem?_eq_getElem hjx)]
          rfl
        · have hin := World.cell?_setCells_in g (ys.map (Value.int .u8)) xs.length W (fun i hi => (hcell (xs.length + i) (by omega)).1) (j - xs.length) (by omega)
          rw [show xs.length + (j - xs.length) = j by omega] at hin
          rw [hin, List.getElem_append_right hjx, List.getElem_map]
      · obtain ⟨v1, w1, hrun, r1, r2⟩ := run_append_arg_grows (P := Tryd.prog) W t ty 5 i0 (.int .u8 0) 1 1 ht hi hz0 hz1 hz2 rfl (by decide) ⟨g, 0, none⟩ xs.length cap (xs.map (Value.int .u8)) (by rw [List.length_map, Nat.mul_one]) (fun j u hu => by
            rw [List.getElem?_map] at hu
            obtain ⟨x, hx, rfl⟩ := Option.map_eq_some_iff.1 hu
            rw [add_plain]
            unfold World.cell?
            simp only [h1, h3 j x hx]
            rfl) ad ys.length c (ys.map (Value.int .u8)) hnl hnews (by omega) (by simp only [maxLen]; omega) (by omega)
        obtain ⟨A1, c1, rfl, hC, hle⟩ := own_C (by rw [List.length_append, List.map_append]; exact r1)
        exact ⟨A1, c1, w1, hrun, hC, hle, ⟨r2.os, r2.tape, r2.output, r2.size, fun k hk _ => r2.block k hk (by simp)⟩⟩
section
variable {ops : Array Oper} {rest : List Oper} {o : Oper} {a : Act} {Q : Exit → Act → World → Prop}
theorem Z_append {w0 W : World} (base : Nat) (hgd : o.guard = none) (s x : Operand) (t : TypeId) (ho : o.op = .call { callee := .builtin .append, args := #[s, x], argTypes := #[t, t] }) (ht : Tryd.prog.underlying t = some (.slice 5))
    (v : Value) (xs ys : List Int) (A : Option Addr) (c : Nat) (ok : Nat → Prop) (hs : a.eval s = v) (hx : a.eval x = .slice A ys.length c) (HZ : Kd.Z W base ok v xs) (HC : (Kd.int .u8).C W A ys.length ys) (hA : A = none → c = 0) (HB : Below base w0 W) (hbase : base ≤ W.heap.size) (hl : xs.length + ys.length ≤ 140737488355328)
    (h : ∀ A1 c1 w1, (Kd.int .u8).C w1 A1 (xs ++ ys).length (xs ++ ys) → (xs ++ ys).length ≤ c1 → Below base w0 w1 → W.grownBy w1 v.ownBlock → wpList Tryd.prog ops Q rest (a.put o.dst (.slice A1 (xs ++ ys).length c1)) w1) :
    wpList Tryd.prog ops Q (o :: rest) a W := by
  obtain ⟨A1, c1, w1, hrun, hC, hle, hg⟩ := Z_app_run (ty := o.type) ht HZ HC hA hl
  refine wpList_plain hgd fun K hK => ?_
  unfold Oper.wp execOp
  simp only [ho, resolve, invoke, builtin, Sem.run_bind, Sem.run_pure, Result.andThen_ok, List.map_toArray, List.map_cons, List.map_nil, hs, hx, hrun]
  exact hK _ _ (h A1 c1 w1 hC hle (HB.grown hg hbase (Kd.Z_base HZ)) hg)
end
end Go.Proofs.YtcbeehchhhoeeaaDoor.P
