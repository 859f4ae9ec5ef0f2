/-
  Contracts of the functions that the statements reach, in the order in which they are built: KerBuf.
-/
import Derived.Test.YthlmgejikbmmaaaGreatM27
import Derived.Test.YthlmgejikbmmaaaGreatM28
import Derived.Test.YthlmgejikbmmaaaGreatM22
import Derived.Test.YthlmgejikbmmaaaGreatM10
set_option linter.unusedVariables false
set_option linter.unusedSimpArgs false
set_option linter.constructorNameAsVariable false
set_option linter.deprecated false

/-
  The walk of KernelBuffers: by contract.
-/
namespace Go.Proofs.YthlmgejikbmmaaaGreat
open Go.RowKit

theorem smallB_parts {k : KerL} (h : smallL k = true) : (k.sizes.length ≤ 10 ∧ k.ops.length ≤ 10 ∧ k.lo.length ≤ 100 ∧ k.hi.length ≤ 100 ∧ k.err.length ≤ 100) ∧ (∀ o ∈ k.ops, o.index.length ≤ 300 ∧ o.weights.length ≤ 300 ∧ o.bias.length ≤ 100) ∧
    (∀ x ∈ k.lo, x.num.length ≤ 4 ∧ x.den.length ≤ 4) ∧ (∀ x ∈ k.hi, x.num.length ≤ 4 ∧ x.den.length ≤ 4) ∧ ∀ x ∈ k.err, x.num.length ≤ 4 ∧ x.den.length ≤ 4 := by
  unfold smallL at h
  simp only [Bool.and_eq_true, decide_eq_true_eq, List.all_eq_true] at h
  obtain ⟨h1, h2, _, h4⟩ := h
  have hx : ∀ x ∈ k.lo ++ (k.hi ++ k.err), x.num.length ≤ 4 ∧ x.den.length ≤ 4 := fun x hm => of_decide_eq_true (h4 x hm)
  exact ⟨h1, fun o ho => of_decide_eq_true (h2 o ho), fun x hm => hx x (by simp [hm]), fun x hm => hx x (by simp [hm]), fun x hm => hx x (by simp [hm])⟩
theorem smallB_WF {k : KerL} (h : smallL k = true) (hr : ∀ o ∈ k.ops, OpRange o) (ho : I64 k.output) : k.WF := by
  obtain ⟨_, _, h3, h4, h5⟩ := smallB_parts h
  have hs : ∀ x : RatL, (x.num.length ≤ 4 ∧ x.den.length ≤ 4) → x.Short := fun x hx => ⟨by omega, by omega⟩
  exact ⟨fun o ho => ⟨(hr o ho).2.1, (hr o ho).2.2.1, (hr o ho).2.2.2.1, (hr o ho).2.2.2.2⟩, ho, fun x hx => hs x (h3 x hx), fun x hx => hs x (h4 x hx), fun x hx => hs x (h5 x hx)⟩

/-- Rows of integers, held by block B. -/
structure RowsI (w : World) (B : Nat) (vs : List (List Int)) : Prop where
  lt : B < w.heap.size
  row : ∀ (j : Nat) (v : List Int), vs[j]? = some v → ∃ g c, w.cell? ⟨B, j, none⟩ = some (.slice (some ⟨g, 0, none⟩) v.length c) ∧ Ints w Any (some ⟨g, 0, none⟩) v
theorem RowsI.below {w w' : World} {B : Nat} {vs : List (List Int)} (h : RowsI w B vs) (hb : Below w.heap.size w w') : RowsI w' B vs :=
  ⟨Nat.lt_of_lt_of_le h.lt hb.size, fun j v hj => let ⟨g, c, q, r⟩ := h.row j v hj; ⟨g, c, (hb.cell (p := ⟨B, j, none⟩) h.lt).trans q, r.below hb⟩⟩
theorem Mach.rowsI {w : World} {M B cap : Nat} {gs : List Nat} {vs : List (List Int)} {h wd : Int} (m : Mach w M B cap gs vs h wd) {sizes : List Int} (hr : RowsOK sizes vs) (hz : sizes.all (fun n => wthn n 1 262144) = true) : RowsI w B vs := by
  refine ⟨m.blt, fun j v hj => ?_⟩
  have hlt := (List.getElem?_eq_some_iff.1 hj).1
  have hs : j < sizes.length := by rw [← hr.len]; exact hlt
  have hg : gs[j]? = some (gs[j]'(by rw [m.len]; exact hlt)) := List.getElem?_eq_getElem _
  obtain ⟨q, r⟩ := m.row j _ v hg hj
  have hl := hr.row j _ v (getD_at hs) hj
  have hb := sizes_range hz (j : Int) (by omega) (by omega)
  rw [Int.toNat_natCast] at hb
  exact ⟨_, _, q, r.ints trivial (hr.wf v (List.mem_of_getElem? hj)) (by omega)⟩
theorem RowsM.rowsI {w : World} {B : Nat} {gs : List Nat} {vs : List (List Int)} (m : RowsM w B gs vs) {sizes : List Int} (hr : RowsOK sizes vs) (hz : sizes.all (fun n => wthn n 1 262144) = true) : RowsI w B vs := by
  refine ⟨m.blt, fun j v hj => ?_⟩
  have hlt := (List.getElem?_eq_some_iff.1 hj).1
  have hs : j < sizes.length := by rw [← hr.len]; exact hlt
  have hg : gs[j]? = some (gs[j]'(by rw [m.len]; exact hlt)) := List.getElem?_eq_getElem _
  obtain ⟨⟨c, _, q⟩, r⟩ := m.row j _ v hg hj
  have hl := hr.row j _ v (getD_at hs) hj
  have hb := sizes_range hz (j : Int) (by omega) (by omega)
  rw [Int.toNat_natCast] at hb
  exact ⟨_, _, q, r.ints (hr.wf v (List.mem_of_getElem? hj)) (by omega)⟩

set_option maxRecDepth 100000 in
set_option maxHeartbeats 3200000 in
theorem lawBuffers {w : World} {v : Value} {k : KerL} (hv : KerV w v k) (hr : ∀ o ∈ k.ops, OpRange o) (hro : I64 k.output) {inp : List Int} {ai : Option Addr} (ci : Nat) (hin : Ints w Any ai inp) :
    Calls Tryz.prog 3 #[v, .slice ai inp.length ci] w fun e w' => e = .returned (.bool true) ∧ Below w.heap.size w w' := by
  have HKV := Lib.hid hv
  obtain ⟨a1, a2, a3, a4, a5, c1, c2, c3, c4, c5, rfl, _⟩ := hv.ex
  have hil := hin.len
  have HIN := Lib.hid hin
  have HWF : Hid (smallL k = true → k.WF) := fun hs => smallB_WF hs hr hro
  clear hv hin hr hro
  go_enter Tryz.func3, Tryz.ntmps3
  go_upto_region 1 with fail
  have hbx := Box8.alloc w (.slice a1 k.sizes.length c1) (.slice a2 k.ops.length c2) (.int .i64 k.output) (.int .i64 k.inShift) (.int .i64 k.outShift) (.slice a3 k.lo.length c3) (.slice a4 k.hi.length c4) (.slice a5 k.err.length c5) 26
  have hb1 : Below w.heap.size w (w.alloc (.cells #[.slice a1 k.sizes.length c1, .slice a2 k.ops.length c2, .int .i64 k.output, .int .i64 k.inShift, .int .i64 k.outShift, .slice a3 k.lo.length c3, .slice a4 k.hi.length c4, .slice a5 k.err.length c5] 26)) := (Below.refl _ w).alloc (Nat.le_refl _) _
  generalize w.alloc (.cells #[.slice a1 k.sizes.length c1, .slice a2 k.ops.length c2, .int .i64 k.output, .int .i64 k.inShift, .int .i64 k.outShift, .slice a3 k.lo.length c3, .slice a4 k.hi.length c4, .slice a5 k.err.length c5] 26) = W at *
  have HBx := Lib.hid hbx
  have HB1 := Lib.hid hb1
  clear hbx hb1
  go_wp2_with fail
  refine (kAwake W).mono ?_
  rintro e w1 ⟨rfl, hb1⟩
  have HX := Lib.hid (HBx.out.below hb1)
  have HK := Lib.hid (HKV.out.below (HB1.out.trans (hb1.mono HB1.out.size)))
  have HI := Lib.hid (HIN.out.below (HB1.out.trans (hb1.mono HB1.out.size)))
  have HB := Lib.hid (HB1.out.trans (hb1.mono HB1.out.size))
  clear hb1 HBx HKV HIN HB1
  obtain ⟨x0, x1, x2, x3, x4, x5, x6, x7, xlt⟩ := HX.out
  go_wp2_with fail
  refine (kSmall HK.out).mono ?_
  rintro e w2 ⟨rfl, hb2⟩
  have HX2 := Lib.hid (HX.out.below hb2)
  have HK2 := Lib.hid (HK.out.below hb2)
  have HI2 := Lib.hid (HI.out.below hb2)
  have HB2 := Lib.hid (HB.out.trans (hb2.mono HB.out.size))
  clear hb2 HX HK HI HB x0 x1 x2 x3 x4 x5 x6 x7 xlt
  cases hsm : smallL k with
  | false =>
    have HS := Lib.hid hsm
    clear hsm
    go_wp2
    go_ret
    exact ⟨rfl, HB2.out⟩
  | true =>
    have HW := Lib.hid (HWF.out hsm)
    have HSm := Lib.hid (smallB_parts hsm)
    clear hsm HWF
    by_cases hl : inp.length ≤ 300
    · have d1 : decide (300 < (inp.length : Int)) = false := decide_eq_false (by omega)
      obtain ⟨x0, x1, x2, x3, x4, x5, x6, x7, xlt⟩ := HX2.out
      go_wp2_with fail
      refine (kBuffers HK2.out HW.out HI2.out).mono ?_
      intro e w3 hp
      have hb3 : Below w2.heap.size w2 w3 := by rcases hp with ⟨_, ⟨_, h3, _⟩ | ⟨_, h3, _⟩⟩ | ⟨_, h3, _⟩ <;> exact h3
      have HX3 := Lib.hid (HX2.out.below hb3)
      have HK3 := Lib.hid (HK2.out.below hb3)
      have HI3 := Lib.hid (HI2.out.below hb3)
      have HB3 := Lib.hid (HB2.out.trans (hb3.mono HB2.out.size))
      clear hb3 x0 x1 x2 x3 x4 x5 x6 x7 xlt HX2 HK2 HI2 HB2
      have HC := Lib.hid (xBuffers HK3.out HW.out (fun x hx => ⟨(HSm.out.2.2.1 x hx).1, (HSm.out.2.2.1 x hx).2⟩) (fun x hx => ⟨(HSm.out.2.2.2.1 x hx).1, (HSm.out.2.2.2.1 x hx).2⟩) (fun x hx => ⟨(HSm.out.2.2.2.2 x hx).1, (HSm.out.2.2.2.2 x hx).2⟩) HI3.out (ci := ci))
      obtain ⟨x0, x1, x2, x3, x4, x5, x6, x7, xlt⟩ := HX3.out
      rcases hp with ⟨hv, ⟨hi, _, M, B, cap, gs, rfl, hm, _⟩ | ⟨hi, _, rfl⟩⟩ | ⟨hv, _, rfl⟩
      · have HV := Lib.hid hv
        have HIl := Lib.hid hi
        have HP := Lib.hid (out_parts hv HI3.out.wf hi)
        have HR3 := Lib.hid (hm.rowsI HP.out.2.2.1 HP.out.2.2.2.2)
        clear hv hi hm
        go_wp2_with fail
        refine HC.out.mono ?_
        intro e w4 hp
        clear HC x0 x1 x2 x3 x4 x5 x6 x7 xlt
        rcases hp with ⟨_, _, hb4, B2, cap2, gs2, rfl, _, hm⟩ | ⟨_, hc, _⟩ | ⟨hc, _⟩
        · have HX4 := Lib.hid (HX3.out.below hb4)
          have HK4 := Lib.hid (HK3.out.below hb4)
          have HI4 := Lib.hid (HI3.out.below hb4)
          have HB4 := Lib.hid (HB3.out.trans (hb4.mono HB3.out.size))
          have HR4 := Lib.hid (HR3.out.below hb4)
          have HS4 := Lib.hid (hm.rowsI HP.out.2.2.1 HP.out.2.2.2.2)
          clear hb4 hm HX3 HK3 HI3 HB3 HR3
          obtain ⟨x0, x1, x2, x3, x4, x5, x6, x7, xlt⟩ := HX4.out
          go_wp2_with fail
          refine (kOut HK4.out HW.out HI4.out).mono ?_
          intro e w5 hp
          clear x0 x1 x2 x3 x4 x5 x6 x7 xlt
          rcases hp with ⟨_, _, hb5, a6, c6, rfl, h6⟩ | ⟨_, hc, _⟩ | ⟨hc, _⟩
          · have HX5 := Lib.hid (HX4.out.below hb5)
            have HB5 := Lib.hid (HB4.out.trans (hb5.mono HB4.out.size))
            have HR5 := Lib.hid (HR4.out.below hb5)
            have HS5 := Lib.hid (HS4.out.below hb5)
            have H6 := Lib.hid h6
            clear hb5 h6 HX4 HK4 HI4 HB4 HR4 HS4
            have hsl : k.sizes.length ≤ 1024 := HP.out.2.2.2.1
            go_wp2
            go_loopw [11] (fun i wr => ∃ j : Nat, j ≤ k.sizes.length ∧ i = .int .i64 (j : Int) ∧ Hid (Below w5.heap.size w5 wr)) (fun i _ => k.sizes.length - (intOf i).toNat)
            case atStart => exact ⟨0, Nat.zero_le _, rfl, Below.refl _ _⟩
            case round =>
              obtain ⟨j, hj, rfl, HL⟩ := hrel
              by_cases hlt : j < k.sizes.length
              · have hRl := HP.out.2.2.1.len
                have hv0 : (runL k inp k.ops.length)[j]? = some ((runL k inp k.ops.length)[j]'(by omega)) := List.getElem?_eq_getElem _
                generalize hvj : (runL k inp k.ops.length)[j]'(by omega) = v at hv0
                have hBl := HR5.out.lt
                have hSl := HS5.out.lt
                obtain ⟨g1, k1, q1, r1⟩ := (HR5.out.below HL.out).row j v hv0
                obtain ⟨g2, k2, q2, r2⟩ := (HS5.out.below HL.out).row j v hv0
                have f1 := ext_cell q1 (HR5.out.below HL.out).lt
                have f2 := ext_cell q2 (HS5.out.below HL.out).lt
                have hdec : decide (v = v) = true := by simp
                have HSI := Lib.hid (fun e => (rSameInts (r1.below (ext_below wr e)) (r2.below (ext_below wr e)) k1 k2))
                rw [hdec] at HSI
                clear hRl hv0 hvj q1 q2 r1 r2 hdec
                go_wp2
                refine wp_region_quiet_ext (by kernel_rfl) (by kernel_rfl) ?_
                repeat (go_big_quiet_step (first | (go_at_call 9; with_reducible exact Calls.ext_of (HSI.out _))))
                refine wpQuiet_nil ?_
                intro _ hw'
                obtain ⟨nq, hw''⟩ := hw'
                subst hw''
                have HBe := Lib.hid (HL.out.trans ((ext_below wr nq).mono HL.out.size))
                generalize ext wr nq = w6 at *
                clear f1 f2
                go_wp2
                go_roundw
                case rel => exact ⟨j + 1, hlt, by go_num, HBe.out⟩
                case measure => simp [intOf]; omega
              · obtain rfl : j = k.sizes.length := by omega
                obtain ⟨p1, p2, p3, p4, p5⟩ := HP.out
                obtain ⟨on, hon⟩ : ∃ n : Nat, k.output = n := ⟨k.output.toNat, by omega⟩
                obtain ⟨l, o2, oD, ol, ow⟩ := p3.pick (i := on) (by omega)
                have hL : outL k inp = l := by unfold outL; rw [hon, Int.toNat_natCast]; exact oD
                obtain ⟨g2, k2, q2, r2⟩ := (HS5.out.below HL.out).row on l o2
                obtain ⟨x0, x1, x2, x3, x4, x5, x6, x7, xlt⟩ := HX5.out.below HL.out
                rw [hon] at x2
                have hon2 : on < k.sizes.length := by omega
                have H6b := Lib.hid (H6.out.below HL.out)
                rw [hL] at H6b ⊢
                have R2 := Lib.hid r2
                have HBL := Lib.hid (HB5.out.trans (HL.out.mono HB5.out.size))
                have hdec : decide (l = l) = true := by simp
                clear p1 p2 p3 p4 p5 hon o2 oD ol ow hL r2
                go_wp2_with fail
                refine (rSameInts H6b.out R2.out _ _).mono ?_
                rintro e w7 ⟨rfl, hb7⟩
                have HB7 := Lib.hid (HBL.out.trans (hb7.mono HBL.out.size))
                clear hb7
                go_wp2
                go_ret
                exact ⟨rfl, HB7.out⟩
          · exact absurd HIl.out hc
          · rw [HV.out] at hc; cases hc
        · exact absurd HIl.out hc
        · rw [HV.out] at hc; cases hc
      · have HV := Lib.hid hv
        have HIl := Lib.hid hi
        clear hv hi
        go_wp2_with fail
        refine HC.out.mono ?_
        intro e w4 hp
        clear HC x0 x1 x2 x3 x4 x5 x6 x7 xlt
        rcases hp with ⟨_, hc, _⟩ | ⟨_, _, hb4, rfl⟩ | ⟨hc, _⟩
        · exact absurd hc HIl.out
        · have HX4 := Lib.hid (HX3.out.below hb4)
          have HB4 := Lib.hid (HB3.out.trans (hb4.mono HB3.out.size))
          have HC5 := Lib.hid (kOut (HK3.out.below hb4) HW.out (HI3.out.below hb4) (ci := ci))
          clear hb4
          obtain ⟨x0, x1, x2, x3, x4, x5, x6, x7, xlt⟩ := HX4.out
          go_wp2_with fail
          refine HC5.out.mono ?_
          intro e w5 hp
          clear x0 x1 x2 x3 x4 x5 x6 x7 xlt HC5
          rcases hp with ⟨_, hc, _⟩ | ⟨_, _, hb5, rfl⟩ | ⟨hc, _⟩
          · exact absurd hc HIl.out
          · have HB5 := Lib.hid (HB4.out.trans (hb5.mono HB4.out.size))
            clear hb5
            go_wp2
            refine wp_loop_rounds 1 ?_
            rw [rounds_succ]
            go_wp2
            go_ret
            exact ⟨rfl, HB5.out⟩
          · rw [HV.out] at hc; cases hc
        · rw [HV.out] at hc; cases hc
      · have HV := Lib.hid hv
        clear hv
        go_wp2_with fail
        refine HC.out.mono ?_
        intro e w4 hp
        clear HC x0 x1 x2 x3 x4 x5 x6 x7 xlt
        rcases hp with ⟨hc, _⟩ | ⟨hc, _⟩ | ⟨_, hb4, rfl⟩
        · rw [HV.out] at hc; cases hc
        · rw [HV.out] at hc; cases hc
        · have HX4 := Lib.hid (HX3.out.below hb4)
          have HB4 := Lib.hid (HB3.out.trans (hb4.mono HB3.out.size))
          have HC5 := Lib.hid (kOut (HK3.out.below hb4) HW.out (HI3.out.below hb4) (ci := ci))
          clear hb4
          obtain ⟨x0, x1, x2, x3, x4, x5, x6, x7, xlt⟩ := HX4.out
          go_wp2_with fail
          refine HC5.out.mono ?_
          intro e w5 hp
          clear x0 x1 x2 x3 x4 x5 x6 x7 xlt HC5
          rcases hp with ⟨hc, _⟩ | ⟨hc, _⟩ | ⟨_, hb5, rfl⟩
          · rw [HV.out] at hc; cases hc
          · rw [HV.out] at hc; cases hc
          · have HB5 := Lib.hid (HB4.out.trans (hb5.mono HB4.out.size))
            clear hb5
            go_wp2
            refine wp_loop_rounds 1 ?_
            rw [rounds_succ]
            go_wp2
            go_ret
            exact ⟨rfl, HB5.out⟩
    · have d1 : decide (300 < (inp.length : Int)) = true := decide_eq_true (by omega)
      go_wp2
      go_ret
      exact ⟨rfl, HB2.out⟩

end Go.Proofs.YthlmgejikbmmaaaGreat
