/- The pure statement of StrCleans: what is clean stays as it is, has no name that leads up, or is nothing, and begins with no slash. No conditions. -/
import Derived.Test.YtllcgkjomeegdaaDoorHPathRef
namespace Go.Proofs.YtllcgkjomeegdaaDoor.Pure
open Go Go.RowKit Go.Lib Go.Proofs.YtllcgkjomeegdaaDoor.P Go.Proofs.YtllcgkjomeegdaaDoorW.PrintWords Go.Proofs.YtllcgkjomeegdaaDoorW.PrintLast

theorem cleansLoop (l : List ByteArray) (hn : ∀ x ∈ l, Name x) (hu : upB l = false) (hl : l.length ≤ 4294967296) (hb : sumL l ≤ 9223372036854775807) : ∀ (d i : Nat), l.length - i = d → i ≤ l.length →
    Ev (fun k => mudlarklaw02_StrCleans.l0 k (txt (joinL l)) (txt (joinL l)) true l (i : Int)) true
  | 0, i, hd, hi => by
    obtain rfl : i = l.length := by omega
    have h : Ev (fun k => (mudlarklaw02_known.f).bind fun t182 => (if t182 = true then (if true = true then (if (txt (joinL l)).toList = (txt (joinL l)).toList then ((mudlarkref02_Join.f k l).bind fun t183 => (if t183.toList = (txt (joinL l)).toList then (if ((txt (joinL l)).size : Int) = 0 then (some true) else (if 0 < ((txt (joinL l)).size : Int) then (some ((bt (txt (joinL l)) 0) != 47)) else (none))) else (some false))) else (some false)) else (some false)) else (some false))) true := by
      rw [known_all]
      simp only [Option.bind_some, if_true]
      refine Ev.bind (RefJoin_eq l hl hb) ?_
      simp only [if_true]
      by_cases h0 : ((txt (joinL l)).size : Int) = 0
      · rw [if_pos h0]
        exact Ev.now true
      · have hp : (0 : Int) < ((txt (joinL l)).size : Int) := by omega
        rw [if_neg h0, if_pos hp]
        rcases join_head l hn with e | ⟨c, t, e, hc⟩
        · rw [txt_size, e] at hp
          simp at hp
        · have hb0 : bt (txt (joinL l)) 0 = (c.toNat : Int) := by
            have := Go.Proofs.YtllcgkjomeegdaaDoor.P.bt_at (txt (joinL l)) 0 (by show 0 < (joinL l).length; rw [e]; simp)
            have e2 : (txt (joinL l)).data.toList = c :: t := e
            simpa [e2] using this
          have : (bt (txt (joinL l)) 0 != 47) = true := by
            rw [hb0, bne_iff_ne]
            intro h
            have : c.toNat = 47 := by omega
            exact hc (UInt8.toNat_inj.1 this)
          rw [this]
          exact Ev.now true
    refine Ev.step (fun k => ?_) h
    simp only [mudlarklaw02_StrCleans.l0]
    rw [if_neg (by omega)]
  | d + 1, i, hd, hi => by
    have hlt : i < l.length := by omega
    have c1 : (i : Int) < (l.length : Int) := by omega
    have c2 : (0 : Int) ≤ (i : Int) := by omega
    have hx := hn _ (List.getElem_mem hlt)
    have hx1 := hx.1
    unfold isName at hx1
    rw [Bool.and_eq_true, Bool.not_eq_true', Bool.not_eq_true', beq_eq_false_iff_ne, beq_eq_false_iff_ne] at hx1
    have hup : l[i].toList ≠ [46, 46] := by
      have h : upB l = false := hu
      unfold upB at h
      rw [List.any_eq_false] at h
      have := h _ (List.getElem_mem hlt)
      simpa using this
    have ih := cleansLoop l hn hu hl hb d (i + 1) (by omega) (by omega)
    refine Ev.step (fun k => ?_) ih
    simp only [mudlarklaw02_StrCleans.l0]
    rw [if_pos c1, if_pos c2, rdOf_at l i hlt, Lib.toList_data, if_neg hx1.1, if_neg hx1.2, if_neg (by rw [← Lib.toList_data]; exact hup), next_i i (by omega)]
theorem StrCleans : mudlarklaw02_StrCleans.Pure := by
  intro l0 _ h0 w0
  refine Ev.rounds (g := fun k => mudlarklaw02_StrCleans.f k l0) ?_
  obtain ⟨p, hp, hp2⟩ := Path_ev l0 (wf_bytes w0) (by omega)
  unfold mudlarklaw02_StrCleans.f
  refine Ev.bind hp ?_
  rw [Clean_eq p (by omega)]
  simp only [Option.bind_some]
  have hz := Lib.size_eq p
  obtain ⟨b1, b2⟩ := split_bounds p (by omega)
  have h2 := splitL_sum _ p.data.toList (Nat.le_refl _)
  have h3 := joinL_length (splitL p.data.toList)
  have hn := split_names p.data.toList
  by_cases hc : Lib.hasPrefix p.data.toList [47] = true
  · have e : cleanF p = (ByteArray.empty, false) := by unfold cleanF; rw [if_pos hc]
    rw [e]
    simp only [if_neg (show ¬ (false = true) by simp), known_all, Option.bind_some, if_true]
    have ee : (ByteArray.empty.toList == ([] : List UInt8)) = true := by rw [Lib.toList_data]; rfl
    rw [ee]
    exact Ev.now true
  · by_cases hu : upB (splitL p.data.toList) = true
    · have e : cleanF p = (ByteArray.empty, false) := by unfold cleanF; rw [if_neg hc, if_pos hu]
      rw [e]
      simp only [if_neg (show ¬ (false = true) by simp), known_all, Option.bind_some, if_true]
      have ee : (ByteArray.empty.toList == ([] : List UInt8)) = true := by rw [Lib.toList_data]; rfl
      rw [ee]
      exact Ev.now true
    · have e : cleanF p = (txt (joinL (splitL p.data.toList)), true) := by unfold cleanF; rw [if_neg hc, if_neg hu]
      have hu2 : upB (splitL p.data.toList) = false := by simpa using hu
      rw [e]
      simp only [if_true]
      have hs2 : (txt (joinL (splitL p.data.toList))).size ≤ 4294967296 := by rw [txt_size]; omega
      rw [Clean_eq _ hs2, Split_eq _ hs2]
      simp only [Option.bind_some]
      rw [clean_join _ hn hu2]
      have e2 : (txt (joinL (splitL p.data.toList))).data.toList = joinL (splitL p.data.toList) := rfl
      rw [e2, split_join _ hn]
      exact cleansLoop _ hn hu2 b1 b2 _ 0 rfl (Nat.zero_le _)
end Go.Proofs.YtllcgkjomeegdaaDoor.Pure
