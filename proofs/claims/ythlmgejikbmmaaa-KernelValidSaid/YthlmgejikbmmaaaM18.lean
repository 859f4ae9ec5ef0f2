/-
  Contracts of the functions that the statements reach, in the order in which they are built: KerTi.
-/
import Derived.Test.YthlmgejikbmmaaaM14
set_option linter.unusedVariables false
set_option linter.unusedSimpArgs false
set_option linter.constructorNameAsVariable false
set_option linter.deprecated false

/-
  kernel.Tiled: by contract.
-/
namespace Go.Proofs.Ythlmgejikbmmaaa
open Go.RowKit

/-- What Tiled returns. -/
def TilPost (w : World) (k : KerL) (inp : List Int) (h wd : Int) (e : Ending) (w' : World) : Prop :=
  (validK k = true ∧ 1 ≤ h ∧ 1 ≤ wd ∧ (inp.length : Int) = k.sizes.getD 0 0 ∧ Below w.heap.size w w' ∧ ∃ a c, e = .returned (.tuple #[.slice a (outL k inp).length c, .int .i64 0]) ∧ Ints w' Any a (outL k inp)) ∨
  (validK k = true ∧ 1 ≤ h ∧ 1 ≤ wd ∧ ¬ (inp.length : Int) = k.sizes.getD 0 0 ∧ Below w.heap.size w w' ∧ e = .returned (.tuple #[.slice none 0 0, .int .i64 11])) ∨
  (¬ (validK k = true ∧ 1 ≤ h ∧ 1 ≤ wd) ∧ Below w.heap.size w w' ∧ e = .returned (.tuple #[.slice none 0 0, .int .i64 1]))

set_option maxRecDepth 100000 in
set_option maxHeartbeats 3200000 in
theorem kTiled {w : World} {v : Value} {k : KerL} (hv : KerV w v k) (hwf : k.WF) {inp : List Int} {ai : Option Addr} {ci : Nat} (hin : Ints w Any ai inp) (h wd : Int) (hr1 : I64 h) (hr2 : I64 wd) :
    Calls Try.prog 30 #[v, .slice ai inp.length ci, .int .i64 h, .int .i64 wd] w (TilPost w k inp h wd) := by
  have HKV := Lib.hid hv
  obtain ⟨a1, a2, a3, a4, a5, c1, c2, c3, c4, c5, rfl, _⟩ := hv.ex
  have HIN := Lib.hid hin
  have HWF := Lib.hid hwf
  obtain ⟨hr1a, hr1b⟩ := hr1
  obtain ⟨hr2a, hr2b⟩ := hr2
  clear hv hin hwf
  go_enter Try.func30, Try.ntmps30
  go_upto_region 1 with fail
  have hbx := Box8.alloc w (.slice a1 k.sizes.length c1) (.slice a2 k.ops.length c2) (.int .i64 k.output) (.int .i64 k.inShift) (.int .i64 k.outShift) (.slice a3 k.lo.length c3) (.slice a4 k.hi.length c4) (.slice a5 k.err.length c5) 45
  have hb1 : Below w.heap.size w (w.alloc (.cells #[.slice a1 k.sizes.length c1, .slice a2 k.ops.length c2, .int .i64 k.output, .int .i64 k.inShift, .int .i64 k.outShift, .slice a3 k.lo.length c3, .slice a4 k.hi.length c4, .slice a5 k.err.length c5] 45)) := (Below.refl _ w).alloc (Nat.le_refl _) _
  generalize w.alloc (.cells #[.slice a1 k.sizes.length c1, .slice a2 k.ops.length c2, .int .i64 k.output, .int .i64 k.inShift, .int .i64 k.outShift, .slice a3 k.lo.length c3, .slice a4 k.hi.length c4, .slice a5 k.err.length c5] 45) = W at *
  have HBx := Lib.hid hbx
  have HB1 := Lib.hid hb1
  obtain ⟨x0, x1, x2, x3, x4, x5, x6, x7, xlt⟩ := hbx
  clear hb1
  go_wp2_with fail
  refine (kValid (HKV.out.below HB1.out) HWF.out).mono ?_
  rintro e w2 ⟨rfl, hb2⟩
  have HB2 := Lib.hid (HB1.out.trans (hb2.mono HB1.out.size))
  have HBx2 := Lib.hid (HBx.out.below hb2)
  obtain ⟨y0, y1, y2, y3, y4, y5, y6, y7, ylt⟩ := HBx2.out
  clear hb2 x0 x1 x2 x3 x4 x5 x6 x7 xlt HBx
  cases hq : validK k with
  | false =>
    have HQ := Lib.hid hq
    clear hq
    go_wp2
    go_ret2
    exact .inr (.inr ⟨fun h => by rw [HQ.out] at h; exact absurd h.1 (by decide), HB2.out, rfl⟩)
  | true =>
    have HQ := Lib.hid hq
    clear hq
    by_cases g1 : h < 1
    · have d1 : decide (h < 1) = true := decide_eq_true g1
      have HG : Hid (¬ 1 ≤ h) := by unfold Hid; omega
      clear g1
      go_wp2
      go_ret2
      exact .inr (.inr ⟨fun hx => by have h1 := HG.out; have h2 := hx.2.1; omega, HB2.out, rfl⟩)
    by_cases g2 : wd < 1
    · have d1 : decide (h < 1) = false := decide_eq_false g1
      have d2 : decide (wd < 1) = true := decide_eq_true g2
      have HG : Hid (¬ 1 ≤ wd) := by unfold Hid; omega
      clear g1 g2
      go_wp2
      go_ret2
      exact .inr (.inr ⟨fun hx => by have h1 := HG.out; have h2 := hx.2.2; omega, HB2.out, rfl⟩)
    have d1 : decide (h < 1) = false := decide_eq_false g1
    have d2 : decide (wd < 1) = false := decide_eq_false g2
    have HG1 : Hid (1 ≤ h) := by unfold Hid; omega
    have HG2 : Hid (1 ≤ wd) := by unfold Hid; omega
    go_wp2_with fail
    obtain ⟨q1, q2, q3, _⟩ := validK_parts HQ.out
    refine (kRun (HKV.out.below HB2.out) (HIN.out.below HB2.out) q1 q3 h wd q2 (runL k inp) rfl (runSteps HQ.out HWF.out HIN.out.wf (.inr ⟨HG1.out, HG2.out, hr1b, hr2b⟩) _)).mono ?_
    intro e w3 hp
    have hp' := hp.from HB2.out
    rcases hp with ⟨_, hb3, _⟩ | ⟨_, hb3, _⟩
    all_goals have HBx3 := Lib.hid (HBx2.out.below hb3)
    all_goals clear y0 y1 y2 y3 y4 y5 y6 y7 ylt d1 d2 g1 g2 hb3 HBx2
    all_goals rcases hp' with ⟨h1, h2, M, B, cap, gs, rfl, h3, h4⟩ | ⟨h1, h2, rfl⟩
    all_goals first
      | (have H2 := Lib.hid h2
         have H1 := Lib.hid h1
         clear h1 h2
         go_wp2
         go_ret2
         exact .inr (.inl ⟨HQ.out, HG1.out, HG2.out, H1.out, H2.out, rfl⟩))
      | (obtain ⟨p1, p2, p3, p4, p5⟩ := out_parts HQ.out HIN.out.wf h1
         obtain ⟨on, hon⟩ : ∃ n : Nat, k.output = n := ⟨k.output.toNat, by omega⟩
         obtain ⟨l, o2, oD, ol, ow⟩ := p3.pick (i := on) (by omega)
         have HL : Hid (outL k inp = l) := by unfold Hid outL; rw [hon, Int.toNat_natCast]; exact oD
         obtain ⟨g, o1⟩ : ∃ g, gs[on]? = some g := ⟨gs[on]'(by omega), List.getElem?_eq_getElem (by omega)⟩
         obtain ⟨r1, r2⟩ := h3.row on g l o1 o2
         have hsz := sizes_range p5 on (by omega) (by omega)
         rw [Int.toNat_natCast] at hsz
         have HI : Hid (Ints w3 Any (some ⟨g, 0, none⟩) l) := r2.ints trivial ow (by omega)
         have z2 := HBx3.out.c2
         rw [hon] at z2
         have hol : on < k.sizes.length := by omega
         have H1 := Lib.hid h1
         have H2 := Lib.hid h2
         have HON := Lib.hid hon
         clear h1 h2 h3 p1 p2 p3 p5 r2 hon oD ol ow o2 hsz
         go_wp2
         go_ret2
         refine .inl ⟨HQ.out, HG1.out, HG2.out, H1.out, H2.out, some ⟨g, 0, none⟩, l.length, ?_, ?_⟩
         · rw [HL.out]; rfl
         · rw [HL.out]; exact HI.out)

end Go.Proofs.Ythlmgejikbmmaaa
