/- The pure statement of SumSums: the program and the reference tell the same of any bytes, and of blocks of choices. No conditions. -/
import Derived.Test.YtmhomfhdelocjaaDoorHRef
namespace Go.Proofs.YtmhomfhdelocjaaDoor.Pure
open Go.RowKit Go.Proofs.YtmhomfhdelocjaaDoor.P Go.Proofs.YtmhomfhdelocjaaDoorW.PrintWords Go.Proofs.YtmhomfhdelocjaaDoorW.PrintLast

theorem u16_in (x : Int) (h : 0 ≤ x ∧ x ≤ 65535) : IntKind.u16.wrap x = x := by
  simp only [IntKind.wrap, IntKind.bits, IntKind.signed]
  simp
  omega
theorem SumSums : mudlarklaw05_SumSums.Pure := by
  intro l0 l1 a2 a3 a4 _ h0 w0 _ h1 w1 g2 g3 g4
  have b0 := wf_bytes w0
  have b1 := wf_bytes w1
  have r2 := wf_u8 g2
  have r3 := wf_u16 g3
  have r4 := wf_u8 g4
  refine Ev.rounds (g := fun k => mudlarklaw05_SumSums.f k l0 l1 a2 a3 a4) ?_
  unfold mudlarklaw05_SumSums.f
  by_cases hlen : (l0.length : Int) > 600
  · simp only [if_pos hlen]
    refine Ev.step (fun k => ?_) (Ev.bind (f := fun _ t => some t) known_eq (Ev.now true))
    simp only [mudlarklaw05_SumSums.j0]
    rw [if_pos trivial]
  · simp only [if_neg hlen]
    refine Ev.bind known_eq ?_
    obtain ⟨x, hx, hx5, hxb⟩ := Block_ev l1 a2 b1 h1 r2
    have hs := RefSeal_eq x hxb (by omega)
    have hsl := sealF_length x
    have hsb := sealF_bytes x hxb
    have e1 : Int.tmod a3 512 = a3 % 512 := Int.tmod_eq_emod_of_nonneg r3.1
    have e2 : IntKind.u16.wrap (148 + Int.tmod a3 8) = 148 + a3 % 8 := by rw [Int.tmod_eq_emod_of_nonneg r3.1]; exact u16_in _ (by omega)
    have c1 : 0 ≤ a3 % 512 := by omega
    have c2 : a3 % 512 < ((sealF x).length : Int) := by rw [hsl]; omega
    have c3 : 0 ≤ 148 + a3 % 8 := by omega
    have c4 : 148 + a3 % 8 < ((sealF x).length : Int) := by rw [hsl]; omega
    have hz : Bytes (((sealF x).set (a3 % 512).toNat a4).set (148 + a3 % 8).toNat a4) := (hsb.set _ _ r4).set _ _ r4
    have hend : Ev (fun k => ((mudlarklaw05_Block.f k l1 a2).bind fun t218 => ((mudlarkref05_Seal.f k t218).bind fun t221 => ((mudlarkref05_Seal.f k t218).bind fun t224 => (if 0 ≤ (Int.tmod a3 512) then (if (Int.tmod a3 512) < (t224.length : Int) then (if 0 ≤ (IntKind.u16.wrap (148 + (Int.tmod a3 8))) then (if (IntKind.u16.wrap (148 + (Int.tmod a3 8))) < (t224.length : Int) then ((mudlarklaw05_tells.f k l0).bind fun t229 => (if t229 = true then ((mudlarklaw05_tells.f k t218).bind fun t230 => (if t230 = true then ((mudlarklaw05_tells.f k t221).bind fun t231 => (if t231 = true then ((mudlarklaw05_tells.f k ((t224.set ((Int.tmod a3 512) : Int).toNat a4).set ((IntKind.u16.wrap (148 + (Int.tmod a3 8))) : Int).toNat a4)).bind fun t232 => (some t232)) else (some false))) else (some false))) else (some false))) else (none)) else (none)) else (none)) else (none)))))) true := by
      refine Ev.bind hx (Ev.bind hs (Ev.bind hs ?_))
      simp only [e1, e2, if_pos c1, if_pos c2, if_pos c3, if_pos c4]
      refine Ev.bind (tells_eq l0 b0 (by omega)) ?_
      simp only [if_true]
      refine Ev.bind (tells_eq x hxb (by omega)) ?_
      simp only [if_true]
      refine Ev.bind (tells_eq _ hsb (by omega)) ?_
      simp only [if_true]
      refine Ev.bind (tells_eq _ hz (by rw [List.length_set, List.length_set]; omega)) (Ev.now _)
    exact Ev.step (fun k => rfl) hend
end Go.Proofs.YtmhomfhdelocjaaDoor.Pure
