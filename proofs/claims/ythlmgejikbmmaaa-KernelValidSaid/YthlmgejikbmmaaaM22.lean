/-
  Contracts of the functions that the statements reach, in the order in which they are built: KerTil.
-/
import Derived.Test.YthlmgejikbmmaaaM18
import Derived.Test.YthlmgejikbmmaaaM21
import Derived.Test.YthlmgejikbmmaaaM14
import Derived.Test.YthlmgejikbmmaaaM17
set_option linter.unusedVariables false
set_option linter.unusedSimpArgs false
set_option linter.constructorNameAsVariable false
set_option linter.deprecated false

/-
  The walk of KernelTiled: by contract.
-/
namespace Go.Proofs.Ythlmgejikbmmaaa
open Go.RowKit

theorem smallL_parts {k : KerL} (h : smallL k = true) : (k.sizes.length ≤ 10 ∧ k.ops.length ≤ 10 ∧ k.lo.length ≤ 100 ∧ k.hi.length ≤ 100 ∧ k.err.length ≤ 100) ∧ (∀ o ∈ k.ops, o.index.length ≤ 300 ∧ o.weights.length ≤ 300 ∧ o.bias.length ≤ 100) ∧
    (∀ x ∈ k.lo, x.num.length ≤ 4 ∧ x.den.length ≤ 4) ∧ (∀ x ∈ k.hi, x.num.length ≤ 4 ∧ x.den.length ≤ 4) ∧ ∀ x ∈ k.err, x.num.length ≤ 4 ∧ x.den.length ≤ 4 := by
  unfold smallL at h
  simp only [Bool.and_eq_true, decide_eq_true_eq, List.all_eq_true] at h
  obtain ⟨h1, h2, _, h4⟩ := h
  have hx : ∀ x ∈ k.lo ++ (k.hi ++ k.err), x.num.length ≤ 4 ∧ x.den.length ≤ 4 := fun x hm => of_decide_eq_true (h4 x hm)
  exact ⟨h1, fun o ho => of_decide_eq_true (h2 o ho), fun x hm => hx x (by simp [hm]), fun x hm => hx x (by simp [hm]), fun x hm => hx x (by simp [hm])⟩
theorem small_WF {k : KerL} (h : smallL k = true) (hr : ∀ o ∈ k.ops, OpRange o) (ho : I64 k.output) : k.WF := by
  obtain ⟨_, _, h3, h4, h5⟩ := smallL_parts h
  have hs : ∀ x : RatL, (x.num.length ≤ 4 ∧ x.den.length ≤ 4) → x.Short := fun x hx => ⟨by omega, by omega⟩
  exact ⟨fun o ho => ⟨(hr o ho).2.1, (hr o ho).2.2.1, (hr o ho).2.2.2.1, (hr o ho).2.2.2.2⟩, ho, fun x hx => hs x (h3 x hx), fun x hx => hs x (h4 x hx), fun x hx => hs x (h5 x hx)⟩

/-- A pair of integers in block g. -/
structure Pair (W : World) (g : Nat) (p q : Value) : Prop where
  c0 : W.cell? ⟨g, 0, none⟩ = some p
  c1 : W.cell? ⟨g, 1, none⟩ = some q
  lt : g < W.heap.size
theorem Pair.below {W W' : World} {g : Nat} {p q : Value} (h : Pair W g p q) (hb : Below W.heap.size W W') : Pair W' g p q := ⟨(hb.cell h.lt).trans h.c0, (hb.cell h.lt).trans h.c1, Nat.lt_of_lt_of_le h.lt hb.size⟩
theorem Pair.alloc (w : World) (p q : Value) (T : Nat) : Pair (w.alloc (.cells #[p, q] T)) w.heap.size p q := by
  refine ⟨?_, ?_, by simp⟩ <;> (rw [World.cell?_alloc_at _ _ _ _ rfl]; rfl)

set_option maxRecDepth 100000 in
set_option maxHeartbeats 3200000 in
theorem lawTiled {w : World} {v : Value} {k : KerL} (hv : KerV w v k) (hr : ∀ o ∈ k.ops, OpRange o) (hro : I64 k.output) {inp : List Int} {ai : Option Addr} (ci : Nat) (hin : Ints w Any ai inp) (h wd : Int) (hr1 : I64 h) (hr2 : I64 wd) :
    Calls Try.prog 12 #[v, .slice ai inp.length ci, .agg #[.int .i64 h, .int .i64 wd]] w fun e w' => e = .returned (.bool true) ∧ Below w.heap.size w w' := by
  have HKV := Lib.hid hv
  obtain ⟨a1, a2, a3, a4, a5, c1, c2, c3, c4, c5, rfl, _⟩ := hv.ex
  have hil := hin.len
  have HIN := Lib.hid hin
  have HWF : Hid (smallL k = true → k.WF) := fun hs => small_WF hs hr hro
  have HR1 := Lib.hid hr1
  have HR2 := Lib.hid hr2
  obtain ⟨hr1a, hr1b⟩ := hr1
  obtain ⟨hr2a, hr2b⟩ := hr2
  clear hv hin hr hro
  go_enter Try.func12, Try.ntmps12
  go_upto_region 1 with fail
  have hbx := Box8.alloc w (.slice a1 k.sizes.length c1) (.slice a2 k.ops.length c2) (.int .i64 k.output) (.int .i64 k.inShift) (.int .i64 k.outShift) (.slice a3 k.lo.length c3) (.slice a4 k.hi.length c4) (.slice a5 k.err.length c5) 45
  have hb1 : Below w.heap.size w (w.alloc (.cells #[.slice a1 k.sizes.length c1, .slice a2 k.ops.length c2, .int .i64 k.output, .int .i64 k.inShift, .int .i64 k.outShift, .slice a3 k.lo.length c3, .slice a4 k.hi.length c4, .slice a5 k.err.length c5] 45)) := (Below.refl _ w).alloc (Nat.le_refl _) _
  have hpr := Pair.alloc (w.alloc (.cells #[.slice a1 k.sizes.length c1, .slice a2 k.ops.length c2, .int .i64 k.output, .int .i64 k.inShift, .int .i64 k.outShift, .slice a3 k.lo.length c3, .slice a4 k.hi.length c4, .slice a5 k.err.length c5] 45)) (.int .i64 h) (.int .i64 wd) 58
  have hb2 := (Below.refl _ (w.alloc (.cells #[.slice a1 k.sizes.length c1, .slice a2 k.ops.length c2, .int .i64 k.output, .int .i64 k.inShift, .int .i64 k.outShift, .slice a3 k.lo.length c3, .slice a4 k.hi.length c4, .slice a5 k.err.length c5] 45))).alloc (Nat.le_refl _) (.cells #[.int .i64 h, .int .i64 wd] 58)
  have HBx := Lib.hid (hbx.below hb2)
  have HB1 := Lib.hid (hb1.trans (hb2.mono hb1.size))
  simp only [World.size_alloc] at hpr
  have HPr := Lib.hid hpr
  clear hbx hb1 hpr hb2
  generalize (w.alloc (.cells #[.slice a1 k.sizes.length c1, .slice a2 k.ops.length c2, .int .i64 k.output, .int .i64 k.inShift, .int .i64 k.outShift, .slice a3 k.lo.length c3, .slice a4 k.hi.length c4, .slice a5 k.err.length c5] 45)).alloc (.cells #[.int .i64 h, .int .i64 wd] 58) = W at *
  go_wp2_with fail
  refine (kAwake W).mono ?_
  rintro e w1 ⟨rfl, hb1⟩
  have HX := Lib.hid (HBx.out.below hb1)
  have HP := Lib.hid (HPr.out.below hb1)
  have HK := Lib.hid (HKV.out.below (HB1.out.trans (hb1.mono HB1.out.size)))
  have HI := Lib.hid (HIN.out.below (HB1.out.trans (hb1.mono HB1.out.size)))
  have HB := Lib.hid (HB1.out.trans (hb1.mono HB1.out.size))
  clear hb1 HBx HPr HKV HIN HB1
  obtain ⟨x0, x1, x2, x3, x4, x5, x6, x7, xlt⟩ := HX.out
  go_wp2_with fail
  refine (kSmall HK.out).mono ?_
  rintro e w2 ⟨rfl, hb2⟩
  have HX2 := Lib.hid (HX.out.below hb2)
  have HP2 := Lib.hid (HP.out.below hb2)
  have HK2 := Lib.hid (HK.out.below hb2)
  have HI2 := Lib.hid (HI.out.below hb2)
  have HB2 := Lib.hid (HB.out.trans (hb2.mono HB.out.size))
  clear hb2 HX HP HK HI HB x0 x1 x2 x3 x4 x5 x6 x7 xlt
  cases hsm : smallL k with
  | false =>
    have HS := Lib.hid hsm
    clear hsm
    go_wp2
    go_ret
    exact ⟨rfl, HB2.out⟩
  | true =>
    have HW := Lib.hid (HWF.out hsm)
    clear hsm HWF
    by_cases hl : inp.length ≤ 300
    · have d1 : decide (300 < (inp.length : Int)) = false := decide_eq_false (by omega)
      obtain ⟨x0, x1, x2, x3, x4, x5, x6, x7, xlt⟩ := HX2.out
      go_wp2_with fail
      refine (kOut HK2.out HW.out HI2.out).mono ?_
      intro e w3 hp
      have hb3 : Below w2.heap.size w2 w3 := by rcases hp with ⟨_, _, h3, _⟩ | ⟨_, _, h3, _⟩ | ⟨_, h3, _⟩ <;> exact h3
      have HX3 := Lib.hid (HX2.out.below hb3)
      have HP3 := Lib.hid (HP2.out.below hb3)
      have HK3 := Lib.hid (HK2.out.below hb3)
      have HI3 := Lib.hid (HI2.out.below hb3)
      have HB3 := Lib.hid (HB2.out.trans (hb3.mono HB2.out.size))
      clear hb3 x0 x1 x2 x3 x4 x5 x6 x7 xlt HX2 HP2 HK2 HI2 HB2
      have HC := Lib.hid (kTiled HK3.out HW.out HI3.out h wd HR1.out HR2.out (ci := ci))
      obtain ⟨x0, x1, x2, x3, x4, x5, x6, x7, xlt⟩ := HX3.out
      obtain ⟨p0, p1, plt⟩ := HP3.out
      rcases hp with ⟨hv, hi, _, a6, c6, rfl, h6⟩ | ⟨hv, hi, _, rfl⟩ | ⟨hv, _, rfl⟩
      · have HV := Lib.hid hv
        have HIl := Lib.hid hi
        have H6 := Lib.hid h6
        clear hv hi h6
        go_wp2_with fail
        refine HC.out.mono ?_
        intro e w4 hp
        clear HC
        rcases hp with ⟨_, q1, q2, _, hb4, a7, c7, rfl, h7⟩ | ⟨_, _, _, hc, _⟩ | ⟨hc, hb4, rfl⟩
        · have hb4 := hb4
          have HP4 := HP3.out.below hb4
          obtain ⟨p0, p1, plt⟩ := HP4
          have HB4 := Lib.hid (HB3.out.trans (hb4.mono HB3.out.size))
          have H6b := Lib.hid (H6.out.below hb4)
          have H7 := Lib.hid h7
          clear h7
          clear hb4
          have d1 : decide (h < 1) = false := decide_eq_false (by omega)
          have d2 : decide (wd < 1) = false := decide_eq_false (by omega)
          go_wp2_with fail
          refine (rSameInts H6b.out H7.out _ _).mono ?_
          rintro e w5 ⟨rfl, hb5⟩
          have HB5 := Lib.hid (HB4.out.trans (hb5.mono HB4.out.size))
          clear hb5
          have hdec : decide (outL k inp = outL k inp) = true := by simp
          go_wp2
          go_ret
          exact ⟨rfl, HB5.out⟩
        · exact absurd HIl.out hc
        · have hb4 := hb4
          have HP4 := HP3.out.below hb4
          obtain ⟨p0, p1, plt⟩ := HP4
          have HB4 := Lib.hid (HB3.out.trans (hb4.mono HB3.out.size))
          clear hb4
          by_cases g1 : h < 1
          · have d1 : decide (h < 1) = true := decide_eq_true g1
            go_wp2
            go_ret
            exact ⟨rfl, HB4.out⟩
          · have d1 : decide (h < 1) = false := decide_eq_false g1
            have d2 : decide (wd < 1) = true := decide_eq_true (by have hx : ¬ (1 ≤ h ∧ 1 ≤ wd) := fun hx => hc ⟨HV.out, hx.1, hx.2⟩; omega)
            go_wp2
            go_ret
            exact ⟨rfl, HB4.out⟩
      · have HV := Lib.hid hv
        have HIl := Lib.hid hi
        clear hv hi
        go_wp2_with fail
        refine HC.out.mono ?_
        intro e w4 hp
        clear HC
        rcases hp with ⟨_, _, _, hc, _⟩ | ⟨_, q1, q2, _, hb4, rfl⟩ | ⟨hc, hb4, rfl⟩
        · exact absurd hc HIl.out
        · have hb4 := hb4
          have HP4 := HP3.out.below hb4
          obtain ⟨p0, p1, plt⟩ := HP4
          have HB4 := Lib.hid (HB3.out.trans (hb4.mono HB3.out.size))
          clear hb4
          have d1 : decide (h < 1) = false := decide_eq_false (by omega)
          have d2 : decide (wd < 1) = false := decide_eq_false (by omega)
          go_wp2_with fail
          refine (rSameInts (Ints.nil w4 Any none) (Ints.nil w4 Any none) _ _).mono ?_
          rintro e w5 ⟨rfl, hb5⟩
          have HB5 := Lib.hid (HB4.out.trans (hb5.mono HB4.out.size))
          clear hb5
          have hdec : decide (([] : List Int) = []) = true := by decide
          go_wp2
          go_ret
          exact ⟨rfl, HB5.out⟩
        · have hb4 := hb4
          have HP4 := HP3.out.below hb4
          obtain ⟨p0, p1, plt⟩ := HP4
          have HB4 := Lib.hid (HB3.out.trans (hb4.mono HB3.out.size))
          clear hb4
          by_cases g1 : h < 1
          · have d1 : decide (h < 1) = true := decide_eq_true g1
            go_wp2
            go_ret
            exact ⟨rfl, HB4.out⟩
          · have d1 : decide (h < 1) = false := decide_eq_false g1
            have d2 : decide (wd < 1) = true := decide_eq_true (by have hx : ¬ (1 ≤ h ∧ 1 ≤ wd) := fun hx => hc ⟨HV.out, hx.1, hx.2⟩; omega)
            go_wp2
            go_ret
            exact ⟨rfl, HB4.out⟩
      · have HV := Lib.hid hv
        clear hv
        go_wp2_with fail
        refine HC.out.mono ?_
        intro e w4 hp
        clear HC
        rcases hp with ⟨hc, _⟩ | ⟨hc, _⟩ | ⟨_, hb4, rfl⟩
        · rw [HV.out] at hc; cases hc
        · rw [HV.out] at hc; cases hc
        by_cases q : 1 ≤ h ∧ 1 ≤ wd
        · obtain ⟨q1, q2⟩ := q
          · have hb4 := hb4
            have HP4 := HP3.out.below hb4
            obtain ⟨p0, p1, plt⟩ := HP4
            have HB4 := Lib.hid (HB3.out.trans (hb4.mono HB3.out.size))
            clear hb4
            have d1 : decide (h < 1) = false := decide_eq_false (by omega)
            have d2 : decide (wd < 1) = false := decide_eq_false (by omega)
            go_wp2_with fail
            refine (rSameInts (Ints.nil w4 Any none) (Ints.nil w4 Any none) _ _).mono ?_
            rintro e w5 ⟨rfl, hb5⟩
            have HB5 := Lib.hid (HB4.out.trans (hb5.mono HB4.out.size))
            clear hb5
            have hdec : decide (([] : List Int) = []) = true := by decide
            go_wp2
            go_ret
            exact ⟨rfl, HB5.out⟩
        · have hb4 := hb4
          have HP4 := HP3.out.below hb4
          obtain ⟨p0, p1, plt⟩ := HP4
          have HB4 := Lib.hid (HB3.out.trans (hb4.mono HB3.out.size))
          clear hb4
          by_cases g1 : h < 1
          · have d1 : decide (h < 1) = true := decide_eq_true g1
            go_wp2
            go_ret
            exact ⟨rfl, HB4.out⟩
          · have d1 : decide (h < 1) = false := decide_eq_false g1
            have d2 : decide (wd < 1) = true := decide_eq_true (by omega)
            go_wp2
            go_ret
            exact ⟨rfl, HB4.out⟩
    · have d1 : decide (300 < (inp.length : Int)) = true := decide_eq_true (by omega)
      go_wp2
      go_ret
      exact ⟨rfl, HB2.out⟩

end Go.Proofs.Ythlmgejikbmmaaa
