/-
  Contracts of the functions that the statements reach, in the order in which they are built: KerVal.
-/
import Derived.Test.YthlmgejikbmmaaaM22
import Derived.Test.YthlmgejikbmmaaaM36
set_option linter.unusedVariables false
set_option linter.unusedSimpArgs false
set_option linter.constructorNameAsVariable false
set_option linter.deprecated false

/-
  The walk of KernelValid: by contract.
-/
namespace Go.Proofs.Ythlmgejikbmmaaa
open Go.RowKit

set_option maxRecDepth 100000 in
set_option maxHeartbeats 3200000 in
theorem lawValid {w : World} {v : Value} {k : KerL} (hv : KerV w v k) (hr : ∀ o ∈ k.ops, OpRange o) (hro : I64 k.output) :
    Calls Try.prog 8 #[v] w fun e w' => e = .returned (.bool true) ∧ Below w.heap.size w w' := by
  have HKV := Lib.hid hv
  obtain ⟨a1, a2, a3, a4, a5, c1, c2, c3, c4, c5, rfl, _⟩ := hv.ex
  have HWF : Hid (smallL k = true → k.WF) := fun hs => small_WF hs hr hro
  clear hv hr hro
  go_enter Try.func8, Try.ntmps8
  go_upto_region 1 with fail
  have hbx := Box8.alloc w (.slice a1 k.sizes.length c1) (.slice a2 k.ops.length c2) (.int .i64 k.output) (.int .i64 k.inShift) (.int .i64 k.outShift) (.slice a3 k.lo.length c3) (.slice a4 k.hi.length c4) (.slice a5 k.err.length c5) 45
  have hb1 : Below w.heap.size w (w.alloc (.cells #[.slice a1 k.sizes.length c1, .slice a2 k.ops.length c2, .int .i64 k.output, .int .i64 k.inShift, .int .i64 k.outShift, .slice a3 k.lo.length c3, .slice a4 k.hi.length c4, .slice a5 k.err.length c5] 45)) := (Below.refl _ w).alloc (Nat.le_refl _) _
  have HBx := Lib.hid hbx
  have HB1 := Lib.hid hb1
  clear hbx hb1
  generalize w.alloc (.cells #[.slice a1 k.sizes.length c1, .slice a2 k.ops.length c2, .int .i64 k.output, .int .i64 k.inShift, .int .i64 k.outShift, .slice a3 k.lo.length c3, .slice a4 k.hi.length c4, .slice a5 k.err.length c5] 45) = W at *
  go_wp2_with fail
  refine (kAwake W).mono ?_
  rintro e w1 ⟨rfl, hb1⟩
  have HB := Lib.hid (HB1.out.trans (hb1.mono HB1.out.size))
  have hx := HBx.out.below hb1
  have hk := HKV.out.below HB.out
  have HSm := Lib.hid (fun e => kSmall (hk.below (ext_below w1 e)))
  have f0 := ext_cell hx.c0 hx.lt
  have f1 := ext_cell hx.c1 hx.lt
  have f2 := ext_cell hx.c2 hx.lt
  have f3 := ext_cell hx.c3 hx.lt
  have f4 := ext_cell hx.c4 hx.lt
  have f5 := ext_cell hx.c5 hx.lt
  have f6 := ext_cell hx.c6 hx.lt
  have f7 := ext_cell hx.c7 hx.lt
  have HK := Lib.hid hk
  clear hb1 hx hk HBx HKV HB1
  cases hsm : smallL k with
  | false =>
    rw [hsm] at HSm
    clear hsm HWF
    go_wp2
    refine wp_region_quiet_ext (by kernel_rfl) (by kernel_rfl) ?_
    repeat (go_big_quiet_step (first | (go_at_call 24; with_reducible exact Calls.ext_of (HSm.out _))))
    refine wpQuiet_nil ?_
    intro _ hw'
    obtain ⟨nq, hw''⟩ := hw'
    subst hw''
    have HBN := Lib.hid (HB.out.trans ((ext_below w1 nq).mono HB.out.size))
    generalize ext w1 nq = w5 at *
    go_wp2
    go_ret
    exact ⟨rfl, HBN.out⟩
  | true =>
    have hwf := HWF.out hsm
    obtain ⟨_, _, s3, s4, s5⟩ := smallL_parts hsm
    have HVa := Lib.hid (fun e => kValid (HK.out.below (ext_below w1 e)) hwf)
    have HVx := Lib.hid (fun e => xValid (HK.out.below (ext_below w1 e)) hwf (fun x hx => ⟨(s3 x hx).1, (s3 x hx).2⟩) (fun x hx => ⟨(s4 x hx).1, (s4 x hx).2⟩) (fun x hx => ⟨(s5 x hx).1, (s5 x hx).2⟩))
    rw [hsm] at HSm
    have hRR : (validK k == validK k) = true := by simp
    generalize validK k = R at *
    clear hsm HWF hwf s3 s4 s5
    go_wp2
    refine wp_region_quiet_ext (by kernel_rfl) (by kernel_rfl) ?_
    repeat (go_big_quiet_step (first | (go_at_call 24; with_reducible exact Calls.ext_of (HSm.out _)) | (go_at_call 25; with_reducible exact Calls.ext_of (HVa.out _)) | (go_at_call 26; with_reducible exact Calls.ext_of (HVx.out _))))
    refine wpQuiet_nil ?_
    intro _ hw'
    obtain ⟨nq, hw''⟩ := hw'
    subst hw''
    have HBN := Lib.hid (HB.out.trans ((ext_below w1 nq).mono HB.out.size))
    generalize ext w1 nq = w5 at *
    go_wp2
    go_ret
    exact ⟨rfl, HBN.out⟩

end Go.Proofs.Ythlmgejikbmmaaa
