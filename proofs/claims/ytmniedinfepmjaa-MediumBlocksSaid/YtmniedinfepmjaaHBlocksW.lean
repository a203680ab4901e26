/- MediumBlocks: its walk out of the printed answer, for arguments as a row hands them. No conditions. -/
import Derived.Test.YtmniedinfepmjaaHTells
import Derived.Test.YtmniedinfepmjaaHImage
namespace Go.Proofs.Ytmniedinfepmjaa.P
open Go Go.RowKit Go.Proofs.YtmniedinfepmjaaW.PrintWords Go.Proofs.YtmniedinfepmjaaW.PrintLast Go.Proofs.YtmniedinfepmjaaW.PrintMore
set_option linter.unusedVariables false
def mudlarklaw06_MediumBlocks.Pure : Prop := ∀ (x0 x1 b bad : List Int) (i : Int) (c : List Int) (n k : Int), x0.length ≤ 140737488351232 → x1.length * 8 ≤ 140737488351232 → b.length ≤ 140737488351232 → bad.length * 8 ≤ 140737488351232 → c.length ≤ 140737488351232 → (Lit.int .u16 n).wf = true →
  ∃ f, mudlarklaw06_MediumBlocks.f f x0 x1 b bad i c n k = some true
theorem mudlarklaw06_MediumBlocks.walk (P : mudlarklaw06_MediumBlocks.Pure) (a0 : Option Addr) (len0 cap0 : Nat) (z0 : List Int) (b0 : Option Addr) (blen0 bcap0 : Nat) (bz0 : List Int) (a1 : Option Addr) (len1 cap1 : Nat) (z1 : List Int) (a2 : Option Addr) (len2 cap2 : Nat) (z2 : List Int) (a3 : Int) (a4 : Option Addr) (len4 cap4 : Nat) (z4 : List Int) (a5 a6 : Int) (w : World)
    (w0 : IsRowK .u8 w a0 len0 cap0 z0) (y0 : len0 * 1 ≤ 140737488351232) (v0 : IsRowK .i64 w b0 blen0 bcap0 bz0) (x0 : blen0 * 8 ≤ 140737488351232) (w1 : IsRowK .u8 w a1 len1 cap1 z1) (y1 : len1 * 1 ≤ 140737488351232) (w2 : IsRowK .i64 w a2 len2 cap2 z2) (y2 : len2 * 8 ≤ 140737488351232) (w3 : (Lit.int .i64 a3).wf = true) (w4 : IsRowK .u8 w a4 len4 cap4 z4) (y4 : len4 * 1 ≤ 140737488351232) (w5 : (Lit.int .u16 a5).wf = true) (w6 : (Lit.int .u8 a6).wf = true) :
    Calls Try.prog 4 #[.agg #[.slice a0 len0 cap0, .slice b0 blen0 bcap0], .slice a1 len1 cap1, .slice a2 len2 cap2, .int .i64 a3, .slice a4 len4 cap4, .int .u16 a5, .int .u8 a6] w fun e w' => e = .returned (.bool true) ∧ Below w.heap.size w w' := by
  obtain ⟨l0, rfl, hr0, hm0, hw0, hc0⟩ := ReadsInt.ofRowC w0
  obtain ⟨m0, rfl, gr0, gm0, gw0, gc0⟩ := ReadsInt.ofRowC v0
  obtain ⟨l1, rfl, hr1, hm1, hw1, hc1⟩ := ReadsInt.ofRowC w1
  obtain ⟨l2, rfl, hr2, hm2, hw2, hc2⟩ := ReadsInt.ofRowC w2
  obtain ⟨l4, rfl, hr4, hm4, hw4, hc4⟩ := ReadsInt.ofRowC w4
  obtain ⟨k, h⟩ := P l0 m0 l1 l2 a3 l4 a5 a6 (by omega) x0 (by omega) y2 (by omega) w5
  refine (mudlarklaw06_MediumBlocks.calls k _ _ l0 _ _ m0 _ _ l1 _ _ l2 a3 _ _ l4 a5 a6 true w (Kd.C_of_reads (d := (0 : Int)) (h1 := fun _ => rfl) hr0) hc0 (Kd.C_of_reads (d := (0 : Int)) (h1 := fun _ => rfl) gr0) gc0 (Kd.C_of_reads (d := (0 : Int)) (h1 := fun _ => rfl) hr1) hc1 (Kd.C_of_reads (d := (0 : Int)) (h1 := fun _ => rfl) hr2) hc2 (Kd.C_of_reads (d := (0 : Int)) (h1 := fun _ => rfl) hr4) hc4 h).mono ?_
  rintro e w' ⟨rfl, hd⟩
  exact ⟨rfl, hd⟩
end Go.Proofs.Ytmniedinfepmjaa.P
