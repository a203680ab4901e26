/- StrBack, walked as it stands: what is put is so wide, and cut as it was; what has a nought is not put. Its conditions: unicode/utf8's two tables hold what their text lays. -/
import Derived.Test.YtllcgkjomeegdaaDoorHPathRef
import Derived.Test.YtllcgkjomeegdaaDoorHPut
import Derived.Lib.ConvBytes
import Derived.Lib.IndexLaws
namespace Go.Proofs.YtllcgkjomeegdaaDoor.P
open Go Go.RowKit Go.Shelf Go.Lib Go.Proofs.YtllcgkjomeegdaaDoorW.PrintWords Go.Proofs.YtllcgkjomeegdaaDoorW.PrintLast Go.Proofs.YtllcgkjomeegdaaDoorW.PrintMore
set_option linter.unusedVariables false
set_option linter.unusedSimpArgs false

theorem numsL_bytes (s : ByteArray) : Bytes (numsL s) := fun x hx => by
  unfold numsL at hx
  obtain ⟨b, _, rfl⟩ := List.mem_map.1 hx
  have := b.toNat_lt
  omega
theorem nums_str (s : ByteArray) : strOfNums (numsL s) = s := by
  cases s with
  | mk d =>
    unfold strOfNums numsL
    congr 1
    rw [List.map_map]
    have : (d.toList.map ((fun n : Int => UInt8.ofNat n.toNat) ∘ fun b : UInt8 => (b.toNat : Int))) = d.toList := by
      conv => rhs; rw [← List.map_id d.toList]
      apply List.map_congr_left
      intro b _
      simp
    show (d.toList.map _).toArray = d
    rw [this]
theorem bytes_world (W : World) (s : ByteArray) : Below W.heap.size W (bytesWorld W 5 s) := ⟨rfl, rfl, rfl, by rw [bytesWorld_size]; omega, fun k hk => bytesWorld_at_old _ _ _ _ hk⟩
theorem bytes_C (W : World) (s : ByteArray) (hs : s.size ≤ 200) : Kd.C (Kd.int .u8) (bytesWorld W 5 s) (some ⟨W.heap.size, 0, none⟩) (numsL s).length (numsL s) := by
  have hz := Lib.size_eq s
  refine Kd.C_of_reads (enc := Value.int .u8) (d := (0 : Int)) (h1 := fun _ => rfl) ⟨rfl, by rw [numsL_length]; show s.size ≤ 9223372036854775807; omega, fun _ => ⟨_, rfl, fun j hj => ?_⟩⟩
  rw [numsL_length] at hj
  rw [Go.WideShapes.add_plain, Nat.zero_add, bytesWorld_cell W 5 s j hj]
  have hj2 : j < s.data.size := by have := Lib.size_eq s; rw [Array.length_toList] at this; omega
  simp only [numsL, List.getD, List.getElem?_map, Array.getElem?_toList]
  rw [Array.getElem?_eq_getElem hj2]
  rfl
theorem cut_conv (W : World) (s : ByteArray) (hs : s.size ≤ 200) (c : Nat) (hc : s.size ≤ c) :
    Calls Tryd.prog 23 #[.slice (some ⟨W.heap.size, 0, none⟩) s.size c] (bytesWorld W 5 s) fun e w' => e = .returned (.string (strOfNums (cutF (numsL s)))) ∧ Below (bytesWorld W 5 s).heap.size (bytesWorld W 5 s) w' := by
  have h := str_Cut.calls (some ⟨W.heap.size, 0, none⟩) c (numsL s) (strOfNums (cutF (numsL s))) (bytesWorld W 5 s) (bytes_C W s hs) (by rw [numsL_length]; exact hc) (by unfold str_Cut.f; rw [if_pos ⟨(bytesB_iff _).2 (numsL_bytes s), by rw [numsL_length]; omega⟩])
  rw [numsL_length] at h
  exact h
theorem cutF_app (l m : List Int) (h : ∀ x ∈ l, x ≠ 0) : cutF (l ++ m) = l ++ cutF m := by
  unfold cutF
  rw [List.takeWhile_append_of_pos (fun x hx => by simpa using h x hx)]
theorem cutF_zeros (n : Nat) : cutF (List.replicate n 0) = [] := by
  cases n with
  | zero => rfl
  | succ n => rfl
theorem ix_split (s : ByteArray) : (Lib.indexByte s.data.toList 0 ≥ 0 ∧ strOfNums (cutF (numsL s)) ≠ s) ∨ (Lib.indexByte s.data.toList 0 < 0 ∧ ∀ x ∈ numsL s, x ≠ 0) := by
  have hge := Lib.indexByte_ge s.data.toList 0
  rcases Int.lt_or_le (Lib.indexByte s.data.toList 0) 0 with h | h
  · refine .inr ⟨h, fun x hx hx0 => ?_⟩
    have h2 : Lib.indexByte s.data.toList 0 = -1 := by omega
    unfold numsL at hx
    obtain ⟨b, hb, rfl⟩ := List.mem_map.1 hx
    obtain ⟨j, hj, rfl⟩ := List.getElem_of_mem hb
    have h3 := Lib.indexByte_none h2 j
    apply h3
    rw [List.getElem?_eq_getElem hj]
    congr 1
    exact UInt8.toNat_inj.1 (by simpa using hx0)
  · refine .inl ⟨h, fun e => ?_⟩
    obtain ⟨o, ho⟩ := Int.eq_ofNat_of_zero_le h
    have h3 := (Lib.indexByte_some ho).1
    obtain ⟨h4, h5⟩ := List.getElem?_eq_some_iff.1 h3
    have hz := Lib.size_eq s
    have h6 : (numsL s).drop o = 0 :: (numsL s).drop (o + 1) := by
      rw [List.drop_eq_getElem_cons (by rw [numsL_length]; omega)]
      congr 1
      simp [numsL, h5]
    have h7 : (cutF (numsL s)).length ≤ o := by
      have e2 : numsL s = (numsL s).take o ++ (0 :: (numsL s).drop (o + 1)) := by rw [← h6, List.take_append_drop]
      have : (List.takeWhile (fun x : Int => decide (x ≠ 0)) ((numsL s).take o ++ (0 :: (numsL s).drop (o + 1)))).length ≤ o := by
        rw [List.takeWhile_append]
        split
        · simp only [List.takeWhile_cons]
          simp
          omega
        · have := (List.takeWhile_prefix (fun x : Int => decide (x ≠ 0)) (l := (numsL s).take o)).length_le
          simp at this ⊢
          omega
      unfold cutF
      rw [e2]
      exact this
    have h8 := congrArg ByteArray.size e
    rw [strOfNums_size] at h8
    omega

theorem cap_ge (W : World) (s : ByteArray) : s.size ≤ grownCap W s.size 0 5 := grownCap_ge W s.size 0 5

def mudlarklaw02_StrBack.Pure : Prop := True
set_option maxHeartbeats 8000000 in
set_option maxRecDepth 1000000 in
theorem mudlarklaw02_StrBack.walk (P : mudlarklaw02_StrBack.Pure) (a0 : ByteArray) (a1 : Int) (w : World) (w0 : a0.size ≤ 140737488351232) (w1 : (Lit.int .u8 a1).wf = true) (HT_ : Tabs w) :
    Calls Tryd.prog 9 #[.string a0, .int .u8 a1] w fun e w' => e = .returned (.bool true) ∧ Below w.heap.size w w' := by
  have HT := Aside0.mk HT_
  clear HT_
  have r1 := wf_u8 w1
  have HK := Aside0.mk known_all
  by_cases h200 : 200 < a0.size
  · have c1 : decide (200 < (a0.size : Int)) = true := decide_eq_true (by omega)
    go_enter Tryd.func9, Tryd.ntmps9
    go_wp2_with (go_at_call 12; refine (mudlarklaw02_known.calls true _ HK.out HT.out).mono ?_; rintro e w2 ⟨rfl, hb⟩)
    go_ret
    exact ⟨rfl, hb⟩
  · have c1 : decide (200 < (a0.size : Int)) = false := decide_eq_false (by omega)
    obtain ⟨K, hK⟩ : ∃ K, Int.tmod a1 9 = K := ⟨_, rfl⟩
    have hK0 : 0 ≤ K := by rw [← hK]; exact Int.tmod_nonneg _ r1.1
    have hK9 : K < 9 := by rw [← hK]; exact Int.tmod_lt_of_pos _ (by omega)
    have hk5 := known_all
    rcases ix_split a0 with ⟨hix, hne⟩ | ⟨hix, hnz⟩
    · have hp : str_Put.f a0 ((a0.size : Int) + K) = some ([], false) := by
        unfold str_Put.f putF
        rw [if_pos (by omega), if_pos (Or.inr hix)]
      have HP := Aside0.mk (fun W => str_Put.calls a0 ((a0.size : Int) + K) [] false W hp)
      clear hp hk5
      go_enter Tryd.func9, Tryd.ntmps9
      have HC := Aside0.mk (fun W => cut_conv W a0 (by omega) _ (cap_ge W a0))
      obtain ⟨y, hy⟩ : ∃ y, strOfNums (cutF (numsL a0)) = y := ⟨_, rfl⟩
      rw [hy] at HC
      rw [hy] at hne
      have hq : (y.toList == a0.toList) = false := beq_eq_false_iff_ne.2 (fun e => hne (by rw [Lib.toList_data, Lib.toList_data] at e; rw [← txt_data y, e, txt_data]))
      clear hy hne
      go_wp2_with (first
        | (go_at_call 21; refine (HP.out _).mono ?_; rintro e w2 ⟨v0, rfl, hR, hb⟩; have hcb := Go.Lib.run_convert_string_bytes (P := Tryd.prog) w2 9 22 5 a0 Tryd.underlying9 Tryd.underlying22 Tryd.underlying5; have HB2 := Aside0.mk hb; clear hb)
        | (go_at_call 23; refine (HC.out _).mono ?_; rintro e w3 ⟨rfl, hb3⟩; have HB3 := Aside0.mk ((HB2.out.trans ((bytes_world _ a0).mono HB2.out.size)).trans (hb3.mono ((HB2.out.trans ((bytes_world _ a0).mono HB2.out.size)).size))); clear hb3)
        | (go_at_call 12; refine (mudlarklaw02_known.calls true _ HK.out (HT.out.below HB3.out)).mono ?_; rintro e w4 ⟨rfl, hb4⟩; have HB4 := Aside0.mk (HB3.out.trans (hb4.mono HB3.out.size)); clear hb4))
      go_ret
      exact ⟨rfl, HB4.out⟩
    · obtain ⟨L, hL⟩ : ∃ L, L = numsL a0 ++ List.replicate (((a0.size : Int) + K).toNat - a0.size) 0 := ⟨_, rfl⟩
      have hp : str_Put.f a0 ((a0.size : Int) + K) = some (L, true) := by
        unfold str_Put.f putF
        rw [if_pos (by omega), if_neg (by omega), hL]
      have hLl : (L.length : Int) = (a0.size : Int) + K := by
        rw [hL, List.length_append, numsL_length, List.length_replicate]
        omega
      have hcutL : cutF L = numsL a0 := by rw [hL, cutF_app _ _ hnz, cutF_zeros, List.append_nil]
      have hcut0 : cutF (numsL a0) = numsL a0 := by
        have := cutF_app (numsL a0) [] hnz
        rw [List.append_nil] at this
        rw [this]
        simp [cutF]
      have hLb : Bytes L := fun x hx => by
        rw [hL] at hx
        rcases List.mem_append.1 hx with hx | hx
        · exact numsL_bytes a0 x hx
        · rw [(List.mem_replicate.1 hx).2]; omega
      have hf2 : str_Cut.f L = some a0 := by
        unfold str_Cut.f
        rw [if_pos ⟨(bytesB_iff _).2 hLb, by omega⟩, hcutL, nums_str]
      have HP := Aside0.mk (fun W => str_Put.calls a0 ((a0.size : Int) + K) L true W hp)
      have HC := Aside0.mk (fun W => cut_conv W a0 (by omega) _ (cap_ge W a0))
      rw [hcut0, nums_str] at HC
      have HF := Aside0.mk hf2
      clear hp hk5 hcutL hcut0 hLb hf2 hL hnz
      go_enter Tryd.func9, Tryd.ntmps9
      go_wp2_with (first
        | (go_at_call 21; refine (HP.out _).mono ?_; rintro e w2 ⟨v0, rfl, hR, hb⟩; have hcb := Go.Lib.run_convert_string_bytes (P := Tryd.prog) w2 9 22 5 a0 Tryd.underlying9 Tryd.underlying22 Tryd.underlying5; obtain ⟨Ab, cb, eb⟩ := Kd.R_slice hR; subst eb; have HR := Aside0.mk (Kd.R_reads' hR); have HB2 := Aside0.mk hb; clear hb hR)
        | (go_at_call 23; refine (HC.out _).mono ?_; clear HC; rintro e w3 ⟨rfl, hb3⟩; have HB3 := Aside0.mk ((HB2.out.trans ((bytes_world _ a0).mono HB2.out.size)).trans (hb3.mono ((HB2.out.trans ((bytes_world _ a0).mono HB2.out.size)).size))); have HX := Aside0.mk ((bytes_world _ a0).trans (hb3.mono (bytes_world _ a0).size)); clear hb3)
        | (go_at_call 12; refine (mudlarklaw02_known.calls true _ HK.out (HT.out.below HB3.out)).mono ?_; rintro e w4 ⟨rfl, hb4⟩; have HB4 := Aside0.mk (HB3.out.trans (hb4.mono HB3.out.size)); have HX4 := Aside0.mk (HX.out.trans (hb4.mono HX.out.size)); clear hb4)
        | (go_at_call 23; with_reducible refine (str_Cut.calls Ab cb L a0 _ (Kd.C_below HR.out.2.2 HX4.out) HR.out.2.1 HF.out).mono ?_; rintro e w5 ⟨rfl, hb5⟩; have HB5 := Aside0.mk (HB4.out.trans (hb5.mono HB4.out.size)); clear hb5))
      go_ret
      exact ⟨rfl, HB5.out⟩
end Go.Proofs.YtllcgkjomeegdaaDoor.P
