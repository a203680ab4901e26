/- pax.Parse: what it hands back for every row of bytes, told over pax.first. Its condition: internal/strconv's table of powers of ten holds what its text lays, and strconv's error variables hold errors. -/
import Derived.Test.YtcbeehchhhoeeaaDoorPx2
import Derived.Test.YtcbeehchhhoeeaaDoorHMark
import Derived.WalkMore
namespace Go.Proofs.YtcbeehchhhoeeaaDoor.P
open Go Go.RowKit Go.Lib Go.Proofs Go.Proofs.YtcbeehchhhoeeaaDoorW.PrintWords Go.Proofs.YtcbeehchhhoeeaaDoorW.PrintLast Go.Proofs.YtcbeehchhhoeeaaDoorW.PrintMore
attribute [local go_sem] max2_int min2_int max_two min_two max_three min_three max_four min_four
set_option linter.unusedVariables false
set_option linter.unusedSimpArgs false

/-- The records of a text, from its begin on, and whether all of it is lines. -/
def parseF : Nat → ByteArray → Option (List S41 × Bool)
  | 0, s => if s.toList = ([] : List UInt8) then some ([], true) else none
  | n + 1, s => if s.toList = ([] : List UInt8) then some ([], true) else (pax_first.f 40 s).bind fun q =>
      if q.2.2.2 = true then (parseF n q.2.2.1).map fun z => ((⟨q.1, q.2.1⟩ : S41) :: z.1, z.2) else some ([], false)
def pax_Parse.f (l : List Int) : Option (List S41 × Int) :=
  if 1048576 < l.length then some ([], 3) else (parseF l.length (strOfNums l)).bind fun z =>
    some (if z.2 = true then (if 1000 < z.1.length then ([], 3) else (z.1, 0)) else ([], 34))
theorem pws_true : Tryd.prog.follows .mixedOrders = true := by kernel_rfl
set_option maxHeartbeats 8000000 in
set_option maxRecDepth 100000 in
theorem pax_Parse.calls (A0 : Option Addr) (c0 : Nat) (l0 : List Int) (r1 : List S41) (r2 : Int) (w : World) (hr0 : Kd.C (Kd.int .u8) w A0 l0.length l0) (hc0 : l0.length ≤ c0) (h : pax_Parse.f l0 = some (r1, r2)) (HT_ : Tabs w) :
    Calls Tryd.prog 14 #[.slice A0 l0.length c0] w fun e w' => ∃ v, e = .returned (.tuple #[v, .int .u16 r2]) ∧ Kd.R k41 41 w' w.heap.size (fun _ => True) v r1 ∧ Below w.heap.size w w' := by
  have hu41 := Tryd.underlying41
  have HT := Aside0.mk HT_
  clear HT_
  have HB := Aside0.mk (Below.refl w.heap.size w)
  have hcv := fun (W : World) (hb : Below w.heap.size w W) => string_of_reads (P := Tryd.prog) (c := c0) Tryd.underlying22 Tryd.underlying5 Tryd.underlying9 (ints_C (Kd.C_below hr0 hb))
  unfold pax_Parse.f at h
  by_cases c1 : 1048576 < l0.length
  · rw [if_pos c1] at h
    obtain ⟨rfl, rfl⟩ := Prod.mk.inj (Option.some.inj h)
    have c1b : decide ((1048576 : Int) < (l0.length : Int)) = true := decide_eq_true (by omega)
    go_enter Tryd.func14, Tryd.ntmps14
    go_wp2
    go_step3
    go_wp2
    try rw [Exit.noGoto_ret]
    go_ret2
    exact ⟨_, rfl, Kd.R_nil _ _ _ _ _, HB.out⟩
  · rw [if_neg c1] at h
    obtain ⟨⟨q1, q2⟩, hq, hv⟩ := Option.bind_eq_some_iff.1 h
    have HV := Aside0.mk (Option.some.inj hv)
    have HQ := Aside0.mk hq
    clear h hq hv
    have c1b : decide ((1048576 : Int) < (l0.length : Int)) = false := decide_eq_false (by omega)
    go_enter Tryd.func14, Tryd.ntmps14
    go_wp2
    go_step3
    go_wp2
    go_step3
    have hcv0 := hcv _ HB.out
    have HCL := Aside0.mk (show l0.length ≤ 1048576 by omega)
    go_wp2
    clear hcv0
    go_loopg [4, 5] l0.length (fun kq v4 v5 w' => ∃ (o : List S41) (x5 : ByteArray) (p1 : List S41), v5 = .string x5 ∧ Aside0 (Kd.R k41 41 w' w.heap.size (fun _ => True) v4 o) ∧ Aside0 (parseF kq x5 = some (p1, q2)) ∧ Aside0 (q2 = true → o ++ p1 = q1) ∧ Aside0 (o.length + kq ≤ l0.length) ∧ Aside0 (Below w.heap.size w w'))
    case atStart => exact ⟨[], _, q1, rfl, ⟨Kd.R_nil _ _ _ _ _⟩, HQ, ⟨fun _ => rfl⟩, ⟨by rw [List.length_nil]; omega⟩, HB⟩
    case round =>
      obtain ⟨o, x5, p1, rfl, HO, HP, HE, HK, HB⟩ := hrel
      by_cases c5 : x5.toList = ([] : List UInt8)
      · have c5b : (x5.toList != ([] : List UInt8)) = false := by rw [c5]; rfl
        have c5c : (x5.toList == ([] : List UInt8)) = true := by rw [c5]; rfl
        have hz := HP.out
        have hp1 : p1 = [] ∧ q2 = true := by
          unfold parseF at hz
          split at hz
          · rw [if_pos c5] at hz; exact ⟨(Prod.mk.inj (Option.some.inj hz)).1.symm, (Prod.mk.inj (Option.some.inj hz)).2.symm⟩
          · rw [if_pos c5] at hz; exact ⟨(Prod.mk.inj (Option.some.inj hz)).1.symm, (Prod.mk.inj (Option.some.inj hz)).2.symm⟩
        obtain ⟨rfl, rfl⟩ := hp1
        have he := HE.out rfl
        rw [List.append_nil] at he
        subst he
        clear hz HP HE
        have hv := HV.out
        rw [if_pos rfl] at hv
        obtain ⟨Ao, co, eo⟩ := Kd.R_slice HO.out
        subst eo
        by_cases cl : 1000 < o.length
        · rw [if_pos cl] at hv
          obtain ⟨rfl, rfl⟩ := Prod.mk.inj hv
          have clb : decide ((1000 : Int) < (o.length : Int)) = true := decide_eq_true (by omega)
          clear hv HV
          go_wp2
          try rw [Exit.noGoto_ret]
          go_ret2
          exact ⟨_, rfl, Kd.R_nil _ _ _ _ _, HB.out⟩
        · rw [if_neg cl] at hv
          obtain ⟨rfl, rfl⟩ := Prod.mk.inj hv
          have clb : decide ((1000 : Int) < (o.length : Int)) = false := decide_eq_false (by omega)
          clear hv HV
          go_wp2
          try rw [Exit.noGoto_ret]
          go_ret2
          exact ⟨_, rfl, HO.out, HB.out⟩
      · have c5b : (x5.toList != ([] : List UInt8)) = true := bne_iff_ne.2 c5
        have c5c : (x5.toList == ([] : List UInt8)) = false := beq_eq_false_iff_ne.2 c5
        cases gk with
        | zero => have hz := HP.out; unfold parseF at hz; rw [if_neg c5] at hz; cases hz
        | succ k1 =>
          have hz := HP.out
          unfold parseF at hz
          rw [if_neg c5] at hz
          obtain ⟨⟨y1, y2, y3, y4⟩, hy, hz2⟩ := Option.bind_eq_some_iff.1 hz
          have HY := Aside0.mk hy
          have HZ := Aside0.mk hz2
          clear hy hz hz2
          go_upto_region 7 with (first | (go_at_call 28; refine (pax_first.calls 40 x5 y1 y2 y3 y4 _ HY.out (HT.out.below HB.out)).mono ?_; rintro e w16 ⟨rfl, hb⟩; have n1_ := Aside0.mk (below_step HB.out hb); have n2_ := Aside0.mk (Kd.R_below HO.out hb); clear HB HO hb; have HB := n1_; have HO := n2_; clear n1_ n2_))
          have n1_ := Aside0.mk (below_alloc HB.out (.cells #[.string y1, .string y2] 41))
          have n2_ := Aside0.mk (Kd.R_alloc HO.out (.cells #[.string y1, .string y2] 41))
          have n3_ : Aside0 ((w16.alloc (.cells #[.string y1, .string y2] 41)).heap[w16.heap.size]? = some (.cells #[.string y1, .string y2] 41 (0, 0))) := ⟨by show (w16.heap.push _)[w16.heap.size]? = _; exact Array.getElem?_push_size⟩
          clear HB HO
          have HB := n1_
          have HO := n2_
          have BK := n3_
          clear n1_ n2_ n3_
          generalize hgb : w16.heap.size = gb at BK ⊢
          generalize hw18 : w16.alloc (.cells #[.string y1, .string y2] 41) = w18 at HB HO BK ⊢
          clear hgb hw18
          have hcz0 : w18.cell? ⟨gb, 0, none⟩ = some (.string y1) := (blk_cell BK.out 0).trans rfl
          have hcz1 : w18.cell? ⟨gb, 1, none⟩ = some (.string y2) := (blk_cell BK.out 1).trans rfl
          have hfz0 := blk_frozen BK.out 0
          have hfz1 := blk_frozen BK.out 1
          have hz2 := HZ.out
          cases y4
          · rw [if_neg (by simp)] at hz2
            obtain ⟨rfl, rfl⟩ := Prod.mk.inj (Option.some.inj hz2)
            have hv := HV.out
            rw [if_neg (by simp)] at hv
            obtain ⟨rfl, rfl⟩ := Prod.mk.inj hv
            clear hv HV hz2
            go_wp2
            try rw [Exit.noGoto_ret]
            go_ret2
            exact ⟨_, rfl, Kd.R_nil _ _ _ _ _, HB.out⟩
          · rw [if_pos rfl] at hz2
            obtain ⟨⟨z1, z2⟩, hz3, hz4⟩ := Option.map_eq_some_iff.1 hz2
            obtain ⟨rfl, rfl⟩ := Prod.mk.inj hz4
            have HZ3 := Aside0.mk hz3
            clear hz2 hz3 hz4 HZ HY HP
            go_wp2_with (first | ((with_reducible refine gate_builtin (b := .append) (xs := #[.tmp 24, .tmp 26]) rfl ?_); at_builtin; refine Kd.R_append k41 (w0 := w) w.heap.size rfl (.tmp 24) (.tmp 26) 23 41 (.agg #[(.string ⟨#[]⟩), (.string ⟨#[]⟩)]) 32 rfl Tryd.underlying23 info41 rfl (by decide) (by omega) u4 o (⟨y1, y2⟩ : S41) [.string y1, .string y2] (fun _ => True) (fun _ => False) rfl rfl ?aP (fun _ hk => hk.elim) ?aF ?aO ?aB ?aS ?aL ?_; (case aP => exact k41_mkM _ _ _ (⟨y1, y2⟩ : S41)); (case aB => exact HB.out); (case aF => exact (fun _ _ => trivial)); (case aO => exact HO.out); (case aS => exact below_size HB.out); (case aL => have := HK.out; have := HCL.out; omega); intro v129 w26 ho hb hg hat; have n0_ := Aside0.mk hb; have n1_ := Aside0.mk ho; clear HB HO hb ho hg hat BK hcz0 hcz1 hfz0 hfz1; have HB := n0_; have HO := n1_; clear n0_ n1_))
            go_roundg k1
            case measure => omega
            case rel => exact ⟨o ++ [⟨y1, y2⟩], y3, z1, rfl, HO, HZ3, ⟨fun hq => by rw [List.append_assoc]; exact HE.out hq⟩, ⟨by have := HK.out; rw [List.length_append]; show o.length + 1 + k1 ≤ _; omega⟩, HB⟩
end Go.Proofs.YtcbeehchhhoeeaaDoor.P
