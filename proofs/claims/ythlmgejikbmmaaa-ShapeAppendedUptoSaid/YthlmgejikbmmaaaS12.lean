/-
  Contracts of the functions that the statements reach, in the order in which they are built: ModE, RatQ, RatR, ModB.
-/
import Derived.Test.YthlmgejikbmmaaaS9
import Derived.Test.YthlmgejikbmmaaaS7
set_option linter.unusedVariables false
set_option linter.unusedSimpArgs false
set_option linter.constructorNameAsVariable false
set_option linter.deprecated false

/-
  The conditions of the kinds of layers (package model): by contract. Printed by genModE.py.
-/
namespace Go.Proofs.Ythlmgejikbmmaaa
open Go.RowKit

set_option maxRecDepth 100000 in
set_option maxHeartbeats 3200000 in
theorem mBare {w : World} {v : Value} {l : LayL} (hv : LayV w v l) (i : Int) {p : Nat} (hpp : FCell w p 79) :
    Calls Try.prog 83 #[v, .int .i64 i, .pointer (some ⟨p, 0, none⟩)] w fun e w' => e = .returned (.bool (sameB l ⟨l.kind, 0, 0, 0, 0, 0, 0, [], []⟩)) ∧ Below w.heap.size w w' := by
  obtain ⟨a1, a2, c1, c2, rfl, r1, r2⟩ := hv.ex
  have HV := Lib.hid hv
  have q1 := r1.len
  have q2 := r2.len
  have R1 := Lib.hid r1
  have R2 := Lib.hid r2
  generalize hRr : (sameB l ⟨l.kind, 0, 0, 0, 0, 0, 0, [], []⟩) = RR
  have HRd := Lib.hid hRr
  have HPp := Lib.hid hpp
  clear hRr hv r1 r2 hpp
  go_enter Try.func83, Try.ntmps83
  go_upto_region 1 with fail
  have hb0 : Below w.heap.size w (w.alloc (.cells #[.int .i64 l.kind, .int .i64 l.frm, .int .i64 l.out, .int .i64 l.kh, .int .i64 l.kw, .int .i64 l.stride, .int .i64 l.pad, .slice a1 l.weights.length c1, .slice a2 l.bias.length c2] 26)) := (Below.refl _ _).alloc (Nat.le_refl _) _
  have hx := Box9.alloc w (.int .i64 l.kind) (.int .i64 l.frm) (.int .i64 l.out) (.int .i64 l.kh) (.int .i64 l.kw) (.int .i64 l.stride) (.int .i64 l.pad) (.slice a1 l.weights.length c1) (.slice a2 l.bias.length c2) 26
  generalize w.alloc (.cells #[.int .i64 l.kind, .int .i64 l.frm, .int .i64 l.out, .int .i64 l.kh, .int .i64 l.kw, .int .i64 l.stride, .int .i64 l.pad, .slice a1 l.weights.length c1, .slice a2 l.bias.length c2] 26) = W at *
  have HB := Lib.hid hb0
  have HX := Lib.hid hx
  have HW0 := Lib.hid (Below.refl W.heap.size W)
  clear hx hb0
  obtain ⟨x0, x1, x2, x3, x4, x5, x6, x7, x8, xlt⟩ := HX.out
  obtain ⟨pp, lp⟩ := HPp.out.below HB.out
  have HR : Hid (sameB l ⟨l.kind, 0, 0, 0, 0, 0, 0, [], []⟩ = RR) := HRd.out
  have HCo := Lib.hid (mOnly (m := ⟨0, 0, 0, 0, 0, 0, 0, [], []⟩) ((HV.out.below HB.out).below HW0.out) (u := .agg #[.int .i64 0, .int .i64 0, .int .i64 0, .int .i64 0, .int .i64 0, .int .i64 0, .int .i64 0, .slice none 0 0, .slice none 0 0]) ⟨none, none, 0, 0, rfl, RatsAt.nil _ _, RatsAt.nil _ _⟩)
  generalize sameB l ⟨l.kind, 0, 0, 0, 0, 0, 0, [], []⟩ = R at *
  go_wp2_with fail
  refine HCo.out.mono ?_
  rintro e w1 ⟨rfl, hb1⟩
  have HW1 := Lib.hid (HW0.out.trans (hb1.mono HW0.out.size))
  clear hb1 x0 x1 x2 x3 x4 x5 x6 x7 x8 pp lp
  obtain ⟨x0, x1, x2, x3, x4, x5, x6, x7, x8, xlt1⟩ := HX.out.below HW1.out
  obtain ⟨pp, lp⟩ := (HPp.out.below HB.out).below HW1.out
  go_wp2
  go_ret
  exact ⟨ret_bool HR.out, HB.out.trans (HW1.out.mono HB.out.size)⟩

set_option maxRecDepth 100000 in
set_option maxHeartbeats 3200000 in
theorem mPool {w : World} {v : Value} {l : LayL} (hv : LayV w v l) (i : Int) {p : Nat} (hpp : FCell w p 79) :
    Calls Try.prog 81 #[v, .int .i64 i, .pointer (some ⟨p, 0, none⟩)] w fun e w' => e = .returned (.bool (kerB l && sameB l ⟨l.kind, 0, 0, l.kh, l.kw, l.stride, 0, [], []⟩)) ∧ Below w.heap.size w w' := by
  obtain ⟨a1, a2, c1, c2, rfl, r1, r2⟩ := hv.ex
  have HV := Lib.hid hv
  have q1 := r1.len
  have q2 := r2.len
  have R1 := Lib.hid r1
  have R2 := Lib.hid r2
  generalize hRr : (kerB l && sameB l ⟨l.kind, 0, 0, l.kh, l.kw, l.stride, 0, [], []⟩) = RR
  have HRd := Lib.hid hRr
  have HPp := Lib.hid hpp
  clear hRr hv r1 r2 hpp
  go_enter Try.func81, Try.ntmps81
  go_upto_region 1 with fail
  have hb0 : Below w.heap.size w (w.alloc (.cells #[.int .i64 l.kind, .int .i64 l.frm, .int .i64 l.out, .int .i64 l.kh, .int .i64 l.kw, .int .i64 l.stride, .int .i64 l.pad, .slice a1 l.weights.length c1, .slice a2 l.bias.length c2] 26)) := (Below.refl _ _).alloc (Nat.le_refl _) _
  have hx := Box9.alloc w (.int .i64 l.kind) (.int .i64 l.frm) (.int .i64 l.out) (.int .i64 l.kh) (.int .i64 l.kw) (.int .i64 l.stride) (.int .i64 l.pad) (.slice a1 l.weights.length c1) (.slice a2 l.bias.length c2) 26
  generalize w.alloc (.cells #[.int .i64 l.kind, .int .i64 l.frm, .int .i64 l.out, .int .i64 l.kh, .int .i64 l.kw, .int .i64 l.stride, .int .i64 l.pad, .slice a1 l.weights.length c1, .slice a2 l.bias.length c2] 26) = W at *
  have HB := Lib.hid hb0
  have HX := Lib.hid hx
  have HW0 := Lib.hid (Below.refl W.heap.size W)
  clear hx hb0
  obtain ⟨x0, x1, x2, x3, x4, x5, x6, x7, x8, xlt⟩ := HX.out
  obtain ⟨pp, lp⟩ := HPp.out.below HB.out
  have HC := Lib.hid (mKernel ((HV.out.below HB.out).below HW0.out))
  cases e1 : kerB l with
  | false =>
    have HR : Hid (false = RR) := by unfold Hid; rw [← HRd.out, e1]; rfl
    rw [e1] at HC
    clear e1
    go_wp2_with fail
    refine HC.out.mono ?_
    rintro e w1 ⟨rfl, hb1⟩
    have HW1 := Lib.hid (HW0.out.trans (hb1.mono HW0.out.size))
    clear hb1 x0 x1 x2 x3 x4 x5 x6 x7 x8 pp lp
    obtain ⟨x0, x1, x2, x3, x4, x5, x6, x7, x8, xlt1⟩ := HX.out.below HW1.out
    obtain ⟨pp, lp⟩ := (HPp.out.below HB.out).below HW1.out
    go_wp2
    go_ret
    exact ⟨ret_bool HR.out, HB.out.trans (HW1.out.mono HB.out.size)⟩
  | true =>
    have HR : Hid (sameB l ⟨l.kind, 0, 0, l.kh, l.kw, l.stride, 0, [], []⟩ = RR) := by unfold Hid; rw [← HRd.out, e1]; rfl
    rw [e1] at HC
    clear e1
    go_wp2_with fail
    refine HC.out.mono ?_
    rintro e w1 ⟨rfl, hb1⟩
    have HW1 := Lib.hid (HW0.out.trans (hb1.mono HW0.out.size))
    clear hb1 x0 x1 x2 x3 x4 x5 x6 x7 x8 pp lp
    obtain ⟨x0, x1, x2, x3, x4, x5, x6, x7, x8, xlt1⟩ := HX.out.below HW1.out
    obtain ⟨pp, lp⟩ := (HPp.out.below HB.out).below HW1.out
    have HCo := Lib.hid (mOnly (m := ⟨0, 0, 0, l.kh, l.kw, l.stride, 0, [], []⟩) ((HV.out.below HB.out).below HW1.out) (u := .agg #[.int .i64 0, .int .i64 0, .int .i64 0, .int .i64 l.kh, .int .i64 l.kw, .int .i64 l.stride, .int .i64 0, .slice none 0 0, .slice none 0 0]) ⟨none, none, 0, 0, rfl, RatsAt.nil _ _, RatsAt.nil _ _⟩)
    generalize sameB l ⟨l.kind, 0, 0, l.kh, l.kw, l.stride, 0, [], []⟩ = R at *
    go_wp2_with fail
    refine HCo.out.mono ?_
    rintro e w2 ⟨rfl, hb2⟩
    have HW2 := Lib.hid (HW1.out.trans (hb2.mono HW1.out.size))
    clear hb2 x0 x1 x2 x3 x4 x5 x6 x7 x8 pp lp
    obtain ⟨x0, x1, x2, x3, x4, x5, x6, x7, x8, xlt2⟩ := HX.out.below HW2.out
    obtain ⟨pp, lp⟩ := (HPp.out.below HB.out).below HW2.out
    go_wp2
    go_ret
    exact ⟨ret_bool HR.out, HB.out.trans (HW2.out.mono HB.out.size)⟩

set_option maxRecDepth 100000 in
set_option maxHeartbeats 3200000 in
theorem mAdd {w : World} {v : Value} {l : LayL} (hv : LayV w v l) (i : Int) {p : Nat} (hpp : FCell w p 79) :
    Calls Try.prog 87 #[v, .int .i64 i, .pointer (some ⟨p, 0, none⟩)] w fun e w' => e = .returned (.bool (decide (-1 ≤ l.frm) && (decide (l.frm < i) && sameB l ⟨l.kind, l.frm, 0, 0, 0, 0, 0, [], []⟩))) ∧ Below w.heap.size w w' := by
  obtain ⟨a1, a2, c1, c2, rfl, r1, r2⟩ := hv.ex
  have HV := Lib.hid hv
  have q1 := r1.len
  have q2 := r2.len
  have R1 := Lib.hid r1
  have R2 := Lib.hid r2
  generalize hRr : (decide (-1 ≤ l.frm) && (decide (l.frm < i) && sameB l ⟨l.kind, l.frm, 0, 0, 0, 0, 0, [], []⟩)) = RR
  have HRd := Lib.hid hRr
  have HPp := Lib.hid hpp
  clear hRr hv r1 r2 hpp
  go_enter Try.func87, Try.ntmps87
  go_upto_region 1 with fail
  have hb0 : Below w.heap.size w (w.alloc (.cells #[.int .i64 l.kind, .int .i64 l.frm, .int .i64 l.out, .int .i64 l.kh, .int .i64 l.kw, .int .i64 l.stride, .int .i64 l.pad, .slice a1 l.weights.length c1, .slice a2 l.bias.length c2] 26)) := (Below.refl _ _).alloc (Nat.le_refl _) _
  have hx := Box9.alloc w (.int .i64 l.kind) (.int .i64 l.frm) (.int .i64 l.out) (.int .i64 l.kh) (.int .i64 l.kw) (.int .i64 l.stride) (.int .i64 l.pad) (.slice a1 l.weights.length c1) (.slice a2 l.bias.length c2) 26
  generalize w.alloc (.cells #[.int .i64 l.kind, .int .i64 l.frm, .int .i64 l.out, .int .i64 l.kh, .int .i64 l.kw, .int .i64 l.stride, .int .i64 l.pad, .slice a1 l.weights.length c1, .slice a2 l.bias.length c2] 26) = W at *
  have HB := Lib.hid hb0
  have HX := Lib.hid hx
  have HW0 := Lib.hid (Below.refl W.heap.size W)
  clear hx hb0
  obtain ⟨x0, x1, x2, x3, x4, x5, x6, x7, x8, xlt⟩ := HX.out
  obtain ⟨pp, lp⟩ := HPp.out.below HB.out
  by_cases e1 : -1 ≤ l.frm
  · by_cases e2 : l.frm < i
    · have HR : Hid (sameB l ⟨l.kind, l.frm, 0, 0, 0, 0, 0, [], []⟩ = RR) := by unfold Hid; rw [← HRd.out, decide_eq_true e1, decide_eq_true e2]; rfl
      have HCo := Lib.hid (mOnly (m := ⟨0, l.frm, 0, 0, 0, 0, 0, [], []⟩) ((HV.out.below HB.out).below HW0.out) (u := .agg #[.int .i64 0, .int .i64 l.frm, .int .i64 0, .int .i64 0, .int .i64 0, .int .i64 0, .int .i64 0, .slice none 0 0, .slice none 0 0]) ⟨none, none, 0, 0, rfl, RatsAt.nil _ _, RatsAt.nil _ _⟩)
      generalize sameB l ⟨l.kind, l.frm, 0, 0, 0, 0, 0, [], []⟩ = R at *
      go_wp2_with fail
      refine HCo.out.mono ?_
      rintro e w1 ⟨rfl, hb1⟩
      have HW1 := Lib.hid (HW0.out.trans (hb1.mono HW0.out.size))
      clear hb1 x0 x1 x2 x3 x4 x5 x6 x7 x8 pp lp
      obtain ⟨x0, x1, x2, x3, x4, x5, x6, x7, x8, xlt1⟩ := HX.out.below HW1.out
      obtain ⟨pp, lp⟩ := (HPp.out.below HB.out).below HW1.out
      go_wp2
      go_ret
      exact ⟨ret_bool HR.out, HB.out.trans (HW1.out.mono HB.out.size)⟩
    · have HR : Hid (false = RR) := by unfold Hid; rw [← HRd.out, decide_eq_true e1, decide_eq_false e2]; rfl
      go_wp2
      go_ret
      exact ⟨ret_bool HR.out, HB.out.trans (HW0.out.mono HB.out.size)⟩
  · have HR : Hid (false = RR) := by unfold Hid; rw [← HRd.out, decide_eq_false e1]; rfl
    go_wp2
    go_ret
    exact ⟨ret_bool HR.out, HB.out.trans (HW0.out.mono HB.out.size)⟩

set_option maxRecDepth 100000 in
set_option maxHeartbeats 3200000 in
theorem mDense {w : World} {v : Value} {l : LayL} (hv : LayV w v l) (i : Int) {po pn : Nat} (hppo : FCell w po 78) (hppn : FCell w pn 79) :
    Calls Try.prog 84 #[v, .int .i64 i, .pointer (some ⟨po, 0, none⟩), .pointer (some ⟨pn, 0, none⟩)] w fun e w' => e = .returned (.bool (outB l && (wgtB l l.out && sameB l ⟨l.kind, 0, l.out, 0, 0, 0, 0, l.weights, l.bias⟩))) ∧ Below w.heap.size w w' := by
  obtain ⟨a1, a2, c1, c2, rfl, r1, r2⟩ := hv.ex
  have HV := Lib.hid hv
  have q1 := r1.len
  have q2 := r2.len
  have R1 := Lib.hid r1
  have R2 := Lib.hid r2
  generalize hRr : (outB l && (wgtB l l.out && sameB l ⟨l.kind, 0, l.out, 0, 0, 0, 0, l.weights, l.bias⟩)) = RR
  have HRd := Lib.hid hRr
  have HPpo := Lib.hid hppo
  have HPpn := Lib.hid hppn
  clear hRr hv r1 r2 hppo hppn
  go_enter Try.func84, Try.ntmps84
  go_upto_region 1 with fail
  have hb0 : Below w.heap.size w (w.alloc (.cells #[.int .i64 l.kind, .int .i64 l.frm, .int .i64 l.out, .int .i64 l.kh, .int .i64 l.kw, .int .i64 l.stride, .int .i64 l.pad, .slice a1 l.weights.length c1, .slice a2 l.bias.length c2] 26)) := (Below.refl _ _).alloc (Nat.le_refl _) _
  have hx := Box9.alloc w (.int .i64 l.kind) (.int .i64 l.frm) (.int .i64 l.out) (.int .i64 l.kh) (.int .i64 l.kw) (.int .i64 l.stride) (.int .i64 l.pad) (.slice a1 l.weights.length c1) (.slice a2 l.bias.length c2) 26
  generalize w.alloc (.cells #[.int .i64 l.kind, .int .i64 l.frm, .int .i64 l.out, .int .i64 l.kh, .int .i64 l.kw, .int .i64 l.stride, .int .i64 l.pad, .slice a1 l.weights.length c1, .slice a2 l.bias.length c2] 26) = W at *
  have HB := Lib.hid hb0
  have HX := Lib.hid hx
  have HW0 := Lib.hid (Below.refl W.heap.size W)
  clear hx hb0
  obtain ⟨x0, x1, x2, x3, x4, x5, x6, x7, x8, xlt⟩ := HX.out
  obtain ⟨ppo, lpo⟩ := HPpo.out.below HB.out
  obtain ⟨ppn, lpn⟩ := HPpn.out.below HB.out
  have HC := Lib.hid (mOut ((HV.out.below HB.out).below HW0.out))
  cases e1 : outB l with
  | false =>
    have HR : Hid (false = RR) := by unfold Hid; rw [← HRd.out, e1]; rfl
    rw [e1] at HC
    clear e1
    go_wp2_with fail
    refine HC.out.mono ?_
    rintro e w1 ⟨rfl, hb1⟩
    have HW1 := Lib.hid (HW0.out.trans (hb1.mono HW0.out.size))
    clear hb1 x0 x1 x2 x3 x4 x5 x6 x7 x8 ppo lpo ppn lpn
    obtain ⟨x0, x1, x2, x3, x4, x5, x6, x7, x8, xlt1⟩ := HX.out.below HW1.out
    obtain ⟨ppo, lpo⟩ := (HPpo.out.below HB.out).below HW1.out
    obtain ⟨ppn, lpn⟩ := (HPpn.out.below HB.out).below HW1.out
    go_wp2
    go_ret
    exact ⟨ret_bool HR.out, HB.out.trans (HW1.out.mono HB.out.size)⟩
  | true =>
    rw [e1] at HC
    have HE1 := Lib.hid e1
    obtain ⟨o1, o2⟩ : 1 ≤ l.out ∧ l.out ≤ 16384 := by unfold outB at e1; simpa using e1
    clear e1
    go_wp2_with fail
    refine HC.out.mono ?_
    rintro e w1 ⟨rfl, hb1⟩
    have HW1 := Lib.hid (HW0.out.trans (hb1.mono HW0.out.size))
    clear hb1 x0 x1 x2 x3 x4 x5 x6 x7 x8 ppo lpo ppn lpn
    obtain ⟨x0, x1, x2, x3, x4, x5, x6, x7, x8, xlt1⟩ := HX.out.below HW1.out
    obtain ⟨ppo, lpo⟩ := (HPpo.out.below HB.out).below HW1.out
    obtain ⟨ppn, lpn⟩ := (HPpn.out.below HB.out).below HW1.out
    have HC2 := Lib.hid (mWeights ((HV.out.below HB.out).below HW1.out) l.out o1 (by omega))
    cases e2 : wgtB l l.out with
    | false =>
      have HR : Hid (false = RR) := by unfold Hid; rw [← HRd.out, HE1.out, e2]; rfl
      rw [e2] at HC2
      clear e2
      go_wp2_with fail
      refine HC2.out.mono ?_
      rintro e w2 ⟨rfl, hb2⟩
      have HW2 := Lib.hid (HW1.out.trans (hb2.mono HW1.out.size))
      clear hb2 x0 x1 x2 x3 x4 x5 x6 x7 x8 ppo lpo ppn lpn
      obtain ⟨x0, x1, x2, x3, x4, x5, x6, x7, x8, xlt2⟩ := HX.out.below HW2.out
      obtain ⟨ppo, lpo⟩ := (HPpo.out.below HB.out).below HW2.out
      obtain ⟨ppn, lpn⟩ := (HPpn.out.below HB.out).below HW2.out
      go_wp2
      go_ret
      exact ⟨ret_bool HR.out, HB.out.trans (HW2.out.mono HB.out.size)⟩
    | true =>
      have HR : Hid (sameB l ⟨l.kind, 0, l.out, 0, 0, 0, 0, l.weights, l.bias⟩ = RR) := by unfold Hid; rw [← HRd.out, HE1.out, e2]; rfl
      rw [e2] at HC2
      clear e2
      go_wp2_with fail
      refine HC2.out.mono ?_
      rintro e w2 ⟨rfl, hb2⟩
      have HW2 := Lib.hid (HW1.out.trans (hb2.mono HW1.out.size))
      clear hb2 x0 x1 x2 x3 x4 x5 x6 x7 x8 ppo lpo ppn lpn
      obtain ⟨x0, x1, x2, x3, x4, x5, x6, x7, x8, xlt2⟩ := HX.out.below HW2.out
      obtain ⟨ppo, lpo⟩ := (HPpo.out.below HB.out).below HW2.out
      obtain ⟨ppn, lpn⟩ := (HPpn.out.below HB.out).below HW2.out
      have HCo := Lib.hid (mOnly (m := ⟨0, 0, l.out, 0, 0, 0, 0, l.weights, l.bias⟩) ((HV.out.below HB.out).below HW2.out) (u := .agg #[.int .i64 0, .int .i64 0, .int .i64 l.out, .int .i64 0, .int .i64 0, .int .i64 0, .int .i64 0, .slice a1 l.weights.length c1, .slice a2 l.bias.length c2]) ⟨a1, a2, c1, c2, rfl, (R1.out.below HB.out).below HW2.out, (R2.out.below HB.out).below HW2.out⟩)
      generalize sameB l ⟨l.kind, 0, l.out, 0, 0, 0, 0, l.weights, l.bias⟩ = R at *
      go_wp2_with fail
      refine HCo.out.mono ?_
      rintro e w3 ⟨rfl, hb3⟩
      have HW3 := Lib.hid (HW2.out.trans (hb3.mono HW2.out.size))
      clear hb3 x0 x1 x2 x3 x4 x5 x6 x7 x8 ppo lpo ppn lpn
      obtain ⟨x0, x1, x2, x3, x4, x5, x6, x7, x8, xlt3⟩ := HX.out.below HW3.out
      obtain ⟨ppo, lpo⟩ := (HPpo.out.below HB.out).below HW3.out
      obtain ⟨ppn, lpn⟩ := (HPpn.out.below HB.out).below HW3.out
      go_wp2
      go_ret
      exact ⟨ret_bool HR.out, HB.out.trans (HW3.out.mono HB.out.size)⟩

theorem conv_bd {a b c : Int} (a1 : 1 ≤ a) (a2 : a ≤ 16384) (b1 : 1 ≤ b) (b2 : b ≤ 64) (c1 : 1 ≤ c) (c2 : c ≤ 64) : (1 ≤ a * b ∧ a * b ≤ 1048576) ∧ 1 ≤ a * b * c ∧ a * b * c ≤ 67108864 := by
  have h1 : 1 * 1 ≤ a * b := Int.mul_le_mul a1 b1 (by omega) (by omega)
  have h2 : a * b ≤ 16384 * 64 := Int.mul_le_mul a2 b2 (by omega) (by omega)
  have h3 : 1 * 1 ≤ a * b * c := Int.mul_le_mul (by omega) c1 (by omega) (by omega)
  have h4 : a * b * c ≤ 1048576 * 64 := Int.mul_le_mul (by omega) c2 (by omega) (by omega)
  omega

set_option maxRecDepth 100000 in
set_option maxHeartbeats 3200000 in
theorem mConv {w : World} {v : Value} {l : LayL} (hv : LayV w v l) (i : Int) {po pn : Nat} (hppo : FCell w po 78) (hppn : FCell w pn 79) :
    Calls Try.prog 86 #[v, .int .i64 i, .pointer (some ⟨po, 0, none⟩), .pointer (some ⟨pn, 0, none⟩)] w fun e w' => e = .returned (.bool (outB l && (kerB l && (decide (0 ≤ l.pad) && (decide (l.pad < l.kh) && (decide (l.pad < l.kw) && (wgtB l (l.out * l.kh * l.kw) && sameB l ⟨l.kind, 0, l.out, l.kh, l.kw, l.stride, l.pad, l.weights, l.bias⟩))))))) ∧ Below w.heap.size w w' := by
  obtain ⟨a1, a2, c1, c2, rfl, r1, r2⟩ := hv.ex
  have HV := Lib.hid hv
  have q1 := r1.len
  have q2 := r2.len
  have R1 := Lib.hid r1
  have R2 := Lib.hid r2
  generalize hRr : (outB l && (kerB l && (decide (0 ≤ l.pad) && (decide (l.pad < l.kh) && (decide (l.pad < l.kw) && (wgtB l (l.out * l.kh * l.kw) && sameB l ⟨l.kind, 0, l.out, l.kh, l.kw, l.stride, l.pad, l.weights, l.bias⟩)))))) = RR
  have HRd := Lib.hid hRr
  have HPpo := Lib.hid hppo
  have HPpn := Lib.hid hppn
  clear hRr hv r1 r2 hppo hppn
  go_enter Try.func86, Try.ntmps86
  go_upto_region 1 with fail
  have hb0 : Below w.heap.size w (w.alloc (.cells #[.int .i64 l.kind, .int .i64 l.frm, .int .i64 l.out, .int .i64 l.kh, .int .i64 l.kw, .int .i64 l.stride, .int .i64 l.pad, .slice a1 l.weights.length c1, .slice a2 l.bias.length c2] 26)) := (Below.refl _ _).alloc (Nat.le_refl _) _
  have hx := Box9.alloc w (.int .i64 l.kind) (.int .i64 l.frm) (.int .i64 l.out) (.int .i64 l.kh) (.int .i64 l.kw) (.int .i64 l.stride) (.int .i64 l.pad) (.slice a1 l.weights.length c1) (.slice a2 l.bias.length c2) 26
  generalize w.alloc (.cells #[.int .i64 l.kind, .int .i64 l.frm, .int .i64 l.out, .int .i64 l.kh, .int .i64 l.kw, .int .i64 l.stride, .int .i64 l.pad, .slice a1 l.weights.length c1, .slice a2 l.bias.length c2] 26) = W at *
  have HB := Lib.hid hb0
  have HX := Lib.hid hx
  have HW0 := Lib.hid (Below.refl W.heap.size W)
  clear hx hb0
  obtain ⟨x0, x1, x2, x3, x4, x5, x6, x7, x8, xlt⟩ := HX.out
  obtain ⟨ppo, lpo⟩ := HPpo.out.below HB.out
  obtain ⟨ppn, lpn⟩ := HPpn.out.below HB.out
  have HC := Lib.hid (mOut ((HV.out.below HB.out).below HW0.out))
  cases e1 : outB l with
  | false =>
    have HR : Hid (false = RR) := by unfold Hid; rw [← HRd.out, e1]; rfl
    rw [e1] at HC
    clear e1
    go_wp2_with fail
    refine HC.out.mono ?_
    rintro e w1 ⟨rfl, hb1⟩
    have HW1 := Lib.hid (HW0.out.trans (hb1.mono HW0.out.size))
    clear hb1 x0 x1 x2 x3 x4 x5 x6 x7 x8 ppo lpo ppn lpn
    obtain ⟨x0, x1, x2, x3, x4, x5, x6, x7, x8, xlt1⟩ := HX.out.below HW1.out
    obtain ⟨ppo, lpo⟩ := (HPpo.out.below HB.out).below HW1.out
    obtain ⟨ppn, lpn⟩ := (HPpn.out.below HB.out).below HW1.out
    go_wp2
    go_ret
    exact ⟨ret_bool HR.out, HB.out.trans (HW1.out.mono HB.out.size)⟩
  | true =>
    rw [e1] at HC
    have HE1 := Lib.hid e1
    obtain ⟨o1, o2⟩ : 1 ≤ l.out ∧ l.out ≤ 16384 := by unfold outB at e1; simpa using e1
    clear e1
    go_wp2_with fail
    refine HC.out.mono ?_
    rintro e w1 ⟨rfl, hb1⟩
    have HW1 := Lib.hid (HW0.out.trans (hb1.mono HW0.out.size))
    clear hb1 x0 x1 x2 x3 x4 x5 x6 x7 x8 ppo lpo ppn lpn
    obtain ⟨x0, x1, x2, x3, x4, x5, x6, x7, x8, xlt1⟩ := HX.out.below HW1.out
    obtain ⟨ppo, lpo⟩ := (HPpo.out.below HB.out).below HW1.out
    obtain ⟨ppn, lpn⟩ := (HPpn.out.below HB.out).below HW1.out
    have HC2 := Lib.hid (mKernel ((HV.out.below HB.out).below HW1.out))
    cases e2 : kerB l with
    | false =>
      have HR : Hid (false = RR) := by unfold Hid; rw [← HRd.out, HE1.out, e2]; rfl
      rw [e2] at HC2
      clear e2
      go_wp2_with fail
      refine HC2.out.mono ?_
      rintro e w2 ⟨rfl, hb2⟩
      have HW2 := Lib.hid (HW1.out.trans (hb2.mono HW1.out.size))
      clear hb2 x0 x1 x2 x3 x4 x5 x6 x7 x8 ppo lpo ppn lpn
      obtain ⟨x0, x1, x2, x3, x4, x5, x6, x7, x8, xlt2⟩ := HX.out.below HW2.out
      obtain ⟨ppo, lpo⟩ := (HPpo.out.below HB.out).below HW2.out
      obtain ⟨ppn, lpn⟩ := (HPpn.out.below HB.out).below HW2.out
      go_wp2
      go_ret
      exact ⟨ret_bool HR.out, HB.out.trans (HW2.out.mono HB.out.size)⟩
    | true =>
      rw [e2] at HC2
      have HE2 := Lib.hid e2
      obtain ⟨⟨k1, k2⟩, ⟨k3, k4⟩, _⟩ : (1 ≤ l.kh ∧ l.kh ≤ 64) ∧ (1 ≤ l.kw ∧ l.kw ≤ 64) ∧ (1 ≤ l.stride ∧ l.stride ≤ 64) := by unfold kerB sidB at e2; simpa using e2
      clear e2
      obtain ⟨⟨m1, m2⟩, m3, m4⟩ := conv_bd o1 o2 k1 k2 k3 k4
      go_wp2_with fail
      refine HC2.out.mono ?_
      rintro e w2 ⟨rfl, hb2⟩
      have HW2 := Lib.hid (HW1.out.trans (hb2.mono HW1.out.size))
      clear hb2 x0 x1 x2 x3 x4 x5 x6 x7 x8 ppo lpo ppn lpn
      obtain ⟨x0, x1, x2, x3, x4, x5, x6, x7, x8, xlt2⟩ := HX.out.below HW2.out
      obtain ⟨ppo, lpo⟩ := (HPpo.out.below HB.out).below HW2.out
      obtain ⟨ppn, lpn⟩ := (HPpn.out.below HB.out).below HW2.out
      by_cases g1 : 0 ≤ l.pad
      · by_cases g2 : l.pad < l.kh
        · by_cases g3 : l.pad < l.kw
          · have HC3 := Lib.hid (mWeights ((HV.out.below HB.out).below HW2.out) (l.out * l.kh * l.kw) m3 (by omega))
            cases e3 : wgtB l (l.out * l.kh * l.kw) with
            | false =>
              have HR : Hid (false = RR) := by unfold Hid; rw [← HRd.out, HE1.out, HE2.out, decide_eq_true g1, decide_eq_true g2, decide_eq_true g3, e3]; rfl
              rw [e3] at HC3
              clear e3
              go_wp2_with fail
              refine HC3.out.mono ?_
              rintro e w3 ⟨rfl, hb3⟩
              have HW3 := Lib.hid (HW2.out.trans (hb3.mono HW2.out.size))
              clear hb3 x0 x1 x2 x3 x4 x5 x6 x7 x8 ppo lpo ppn lpn
              obtain ⟨x0, x1, x2, x3, x4, x5, x6, x7, x8, xlt3⟩ := HX.out.below HW3.out
              obtain ⟨ppo, lpo⟩ := (HPpo.out.below HB.out).below HW3.out
              obtain ⟨ppn, lpn⟩ := (HPpn.out.below HB.out).below HW3.out
              go_wp2
              go_ret
              exact ⟨ret_bool HR.out, HB.out.trans (HW3.out.mono HB.out.size)⟩
            | true =>
              have HR : Hid (sameB l ⟨l.kind, 0, l.out, l.kh, l.kw, l.stride, l.pad, l.weights, l.bias⟩ = RR) := by unfold Hid; rw [← HRd.out, HE1.out, HE2.out, decide_eq_true g1, decide_eq_true g2, decide_eq_true g3, e3]; rfl
              rw [e3] at HC3
              clear e3
              go_wp2_with fail
              refine HC3.out.mono ?_
              rintro e w3 ⟨rfl, hb3⟩
              have HW3 := Lib.hid (HW2.out.trans (hb3.mono HW2.out.size))
              clear hb3 x0 x1 x2 x3 x4 x5 x6 x7 x8 ppo lpo ppn lpn
              obtain ⟨x0, x1, x2, x3, x4, x5, x6, x7, x8, xlt3⟩ := HX.out.below HW3.out
              obtain ⟨ppo, lpo⟩ := (HPpo.out.below HB.out).below HW3.out
              obtain ⟨ppn, lpn⟩ := (HPpn.out.below HB.out).below HW3.out
              have HCo := Lib.hid (mOnly (m := ⟨0, 0, l.out, l.kh, l.kw, l.stride, l.pad, l.weights, l.bias⟩) ((HV.out.below HB.out).below HW3.out) (u := .agg #[.int .i64 0, .int .i64 0, .int .i64 l.out, .int .i64 l.kh, .int .i64 l.kw, .int .i64 l.stride, .int .i64 l.pad, .slice a1 l.weights.length c1, .slice a2 l.bias.length c2]) ⟨a1, a2, c1, c2, rfl, (R1.out.below HB.out).below HW3.out, (R2.out.below HB.out).below HW3.out⟩)
              generalize sameB l ⟨l.kind, 0, l.out, l.kh, l.kw, l.stride, l.pad, l.weights, l.bias⟩ = R at *
              go_wp2_with fail
              refine HCo.out.mono ?_
              rintro e w4 ⟨rfl, hb4⟩
              have HW4 := Lib.hid (HW3.out.trans (hb4.mono HW3.out.size))
              clear hb4 x0 x1 x2 x3 x4 x5 x6 x7 x8 ppo lpo ppn lpn
              obtain ⟨x0, x1, x2, x3, x4, x5, x6, x7, x8, xlt4⟩ := HX.out.below HW4.out
              obtain ⟨ppo, lpo⟩ := (HPpo.out.below HB.out).below HW4.out
              obtain ⟨ppn, lpn⟩ := (HPpn.out.below HB.out).below HW4.out
              go_wp2
              go_ret
              exact ⟨ret_bool HR.out, HB.out.trans (HW4.out.mono HB.out.size)⟩
          · have HR : Hid (false = RR) := by unfold Hid; rw [← HRd.out, HE1.out, HE2.out, decide_eq_true g1, decide_eq_true g2, decide_eq_false g3]; rfl
            go_wp2
            go_ret
            exact ⟨ret_bool HR.out, HB.out.trans (HW2.out.mono HB.out.size)⟩
        · have HR : Hid (false = RR) := by unfold Hid; rw [← HRd.out, HE1.out, HE2.out, decide_eq_true g1, decide_eq_false g2]; rfl
          go_wp2
          go_ret
          exact ⟨ret_bool HR.out, HB.out.trans (HW2.out.mono HB.out.size)⟩
      · have HR : Hid (false = RR) := by unfold Hid; rw [← HRd.out, HE1.out, HE2.out, decide_eq_false g1]; rfl
        go_wp2
        go_ret
        exact ⟨ret_bool HR.out, HB.out.trans (HW2.out.mono HB.out.size)⟩

/-- The conditions, told by the fields. -/
theorem cond1 (l : LayL) (i : Int) (h : l.kind = 1) : (outB l && (wgtB l l.out && sameB l ⟨l.kind, 0, l.out, 0, 0, 0, 0, l.weights, l.bias⟩)) = condL l i := by
  unfold condL sameB
  rw [if_pos h, Bool.eq_iff_iff]
  simp only [Bool.and_eq_true, beq_iff_eq, decide_eq_true_eq, true_and, and_true]
theorem cond2 (l : LayL) (i : Int) (h : l.kind = 2) : (outB l && (kerB l && (decide (0 ≤ l.pad) && (decide (l.pad < l.kh) && (decide (l.pad < l.kw) && (wgtB l (l.out * l.kh * l.kw) && sameB l ⟨l.kind, 0, l.out, l.kh, l.kw, l.stride, l.pad, l.weights, l.bias⟩)))))) = condL l i := by
  unfold condL sameB
  rw [if_neg (by omega), if_pos h, Bool.eq_iff_iff]
  simp only [Bool.and_eq_true, beq_iff_eq, decide_eq_true_eq, true_and, and_true]
theorem cond3 (l : LayL) (i : Int) (h : l.kind = 3 ∨ l.kind = 4) : (kerB l && sameB l ⟨l.kind, 0, 0, l.kh, l.kw, l.stride, 0, [], []⟩) = condL l i := by
  unfold condL sameB noneB
  rw [if_neg (by omega), if_neg (by omega), if_pos h, Bool.eq_iff_iff]
  simp only [Bool.and_eq_true, beq_iff_eq, decide_eq_true_eq, true_and, and_true]
  constructor
  · rintro ⟨k0, k1, k2, k3, k4, k5⟩; exact ⟨k0, ⟨k1, k2, k3⟩, k4, k5⟩
  · rintro ⟨k0, ⟨k1, k2, k3⟩, k4, k5⟩; exact ⟨k0, k1, k2, k3, k4, k5⟩
theorem cond5 (l : LayL) (i : Int) (h : l.kind = 5 ∨ l.kind = 6) : (sameB l ⟨l.kind, 0, 0, 0, 0, 0, 0, [], []⟩) = condL l i := by
  unfold condL sameB noneB
  rw [if_neg (by omega), if_neg (by omega), if_neg (by omega), if_pos h, Bool.eq_iff_iff]
  simp only [Bool.and_eq_true, beq_iff_eq, decide_eq_true_eq, true_and, and_true]
  constructor
  · rintro ⟨k1, k2, k3, k4, k5, k6, k7, k8⟩; exact ⟨⟨k1, k2, k3, k4, k5, k6⟩, k7, k8⟩
  · rintro ⟨⟨k1, k2, k3, k4, k5, k6⟩, k7, k8⟩; exact ⟨k1, k2, k3, k4, k5, k6, k7, k8⟩
theorem cond7 (l : LayL) (i : Int) (h : l.kind = 7) : (decide (-1 ≤ l.frm) && (decide (l.frm < i) && sameB l ⟨l.kind, l.frm, 0, 0, 0, 0, 0, [], []⟩)) = condL l i := by
  unfold condL sameB noneB
  rw [if_neg (by omega), if_neg (by omega), if_neg (by omega), if_neg (by omega), if_pos h, Bool.eq_iff_iff]
  simp only [Bool.and_eq_true, beq_iff_eq, decide_eq_true_eq, true_and, and_true]
  constructor
  · rintro ⟨k1, k2, k3, k4, k5, k6, k7, k8, k9⟩; exact ⟨k1, k2, ⟨k3, k4, k5, k6, k7⟩, k8, k9⟩
  · rintro ⟨k1, k2, ⟨k3, k4, k5, k6, k7⟩, k8, k9⟩; exact ⟨k1, k2, k3, k4, k5, k6, k7, k8, k9⟩

end Go.Proofs.Ythlmgejikbmmaaa

/-
  The canonical fields of a rational number, and what the operations on fields are on numbers. No Go in sight.
-/
namespace Go.Proofs.Ythlmgejikbmmaaa

/-- The number for which three fields stand. -/
def ratOf (x : RatL) : Rat := mkRat (sgn x.neg (lval x.num)) (underN x.den)
/-- The canonical fields of a number. -/
def ratL (q : Rat) : RatL := ⟨decide (q.num < 0), limbs q.num.natAbs, if q.den = 1 then [] else limbs q.den⟩

theorem sgn_natAbs (neg : Bool) (n : Nat) : (sgn neg n).natAbs = n := by cases neg <;> simp [sgn]
theorem quotN_ratL (neg : Bool) (n : Nat) {d : Nat} (hd : 0 < d) : quotN neg n d = ratL (mkRat (sgn neg n) d) := by
  have hg : 0 < Nat.gcd n d := Nat.gcd_pos_of_pos_right _ hd
  obtain ⟨k, hk⟩ := Nat.gcd_dvd_left n d
  rw [Rat.mkRat_def, dif_neg (by omega), Rat.normalize_eq]
  unfold quotN ratL
  simp only [sgn_natAbs]
  have e : sgn neg n / ((Nat.gcd n d : Nat) : Int) = sgn neg (n / Nat.gcd n d) := by
    generalize Nat.gcd n d = g at *
    subst hk
    rw [Nat.mul_div_cancel_left _ hg]
    cases neg
    · simp only [sgn]; simp; rw [Int.mul_ediv_cancel_left _ (by omega)]
    · simp only [sgn]; simp; rw [← Int.mul_neg, Int.mul_ediv_cancel_left _ (by omega)]
  rw [e, sgn_natAbs]
  congr 1
  have h0 : n = 0 ↔ n / Nat.gcd n d = 0 := by
    constructor
    · rintro rfl; simp
    · intro h
      generalize Nat.gcd n d = g at *
      subst hk
      rw [Nat.mul_div_cancel_left _ hg] at h
      rw [h, Nat.mul_zero]
  generalize n / Nat.gcd n d = q at *
  by_cases hn : n = 0
  · rw [h0.1 hn]; cases neg <;> simp [sgn, hn]
  · have hq : q ≠ 0 := fun h => hn (h0.2 h)
    cases neg
    · simp [sgn]
    · simp [sgn, hn]; omega
theorem canonL_ratL (x : RatL) : canonL x = ratL (ratOf x) := quotN_ratL _ _ (underN_pos _)
theorem ratL_lim (q : Rat) : (ratL q).Lim := by
  refine ⟨lim_limbs _, ?_⟩
  unfold ratL
  dsimp only
  split
  · intro d hd; simp at hd
  · exact lim_limbs _
theorem underN_ratL (q : Rat) : underN (ratL q).den = q.den := by
  unfold ratL underN
  dsimp only
  have := q.den_nz
  by_cases h : q.den = 1
  · rw [if_pos h, lval_nil, if_pos rfl, h]
  · rw [if_neg h, lval_limbs, if_neg this]
theorem sgn_ratL (q : Rat) : sgn (ratL q).neg (lval (ratL q).num) = q.num := by
  unfold ratL sgn
  dsimp only
  rw [lval_limbs]
  by_cases h : q.num < 0
  · rw [decide_eq_true h]; simp; omega
  · rw [decide_eq_false h]; simp; omega
theorem ratOf_ratL (q : Rat) : ratOf (ratL q) = q := by
  unfold ratOf; rw [underN_ratL, sgn_ratL, Rat.mkRat_self]
theorem ratL_inj {p q : Rat} (h : ratL p = ratL q) : p = q := by rw [← ratOf_ratL p, h, ratOf_ratL]
theorem valid_ratL (q : Rat) : ratL q = canonL (ratL q) := by rw [canonL_ratL, ratOf_ratL]
theorem neg_ratL (q : Rat) : (ratL q).neg = decide (q < 0) := by
  unfold ratL
  dsimp only
  rw [decide_eq_decide]
  have := @Rat.num_nonneg q
  rw [← Rat.not_le, ← this]
  omega

theorem sgn_mul (a b : Bool) (n m : Nat) : sgn (a != b) (n * m) = sgn a n * sgn b m := by
  cases a <;> cases b <;> simp [sgn, Int.neg_mul, Int.mul_neg]
theorem mulQ (a b : Bool) (n m d e : Nat) : mkRat (sgn (a != b) (n * m)) (d * e) = mkRat (sgn a n) d * mkRat (sgn b m) e := by
  rw [sgn_mul, Rat.mkRat_mul_mkRat]
theorem addQ (a b : Bool) (n m : Nat) {d e : Nat} (hd : 0 < d) (he : 0 < e) : mkRat (sgn a (n * e) + sgn b (m * d)) (d * e) = mkRat (sgn a n) d + mkRat (sgn b m) e := by
  rw [Rat.mkRat_add_mkRat _ _ (by omega) (by omega)]
  congr 1
  cases a <;> cases b <;> simp [sgn, Int.neg_mul]
theorem inv_mkRat' (b : Bool) (m e : Nat) : (mkRat (sgn b m) e)⁻¹ = mkRat (sgn b e) m := by
  rw [Rat.mkRat_eq_div, Rat.mkRat_eq_div, Rat.div_def, Rat.div_def, Rat.inv_mul_rev, Rat.inv_inv]
  cases b
  · rfl
  · have h : (-((m : Int) : Rat))⁻¹ = -((m : Int) : Rat)⁻¹ := by grind
    simp only [sgn, if_true, Rat.intCast_neg, h, Rat.mul_neg, Rat.neg_mul]
    rfl
theorem divQ (a b : Bool) (n m d e : Nat) : mkRat (sgn (a != b) (n * e)) (d * m) = mkRat (sgn a n) d / mkRat (sgn b m) e := by
  rw [Rat.div_def, inv_mkRat' b m e, sgn_mul, Rat.mkRat_mul_mkRat]
theorem sgn_not (a : Bool) (n : Nat) : sgn (!a) n = -sgn a n := by cases a <;> simp [sgn]
theorem negQ (a : Bool) (n d : Nat) : mkRat (sgn (!a) n) d = -mkRat (sgn a n) d := by rw [sgn_not, Rat.neg_mkRat]

/-- The sign of a number. -/
def signQ (q : Rat) : Int := if q < 0 then -1 else if 0 < q then 1 else 0
theorem mkRat_pos_iff {z : Int} {d : Nat} (hd : 0 < d) : 0 < mkRat z d ↔ 0 < z := by
  rw [Rat.mkRat_eq_div]
  have h : (0 : Rat) < (d : Rat) := by exact_mod_cast hd
  rw [Rat.lt_div_iff h, Rat.zero_mul]
  exact Rat.intCast_lt_intCast (a := 0)
theorem mkRat_neg_iff {z : Int} {d : Nat} (hd : 0 < d) : mkRat z d < 0 ↔ z < 0 := by
  rw [Rat.mkRat_eq_div]
  have h : (0 : Rat) < (d : Rat) := by exact_mod_cast hd
  rw [Rat.div_lt_iff h, Rat.zero_mul]
  exact Rat.intCast_lt_intCast (b := 0)
theorem signZ_signQ (x : RatL) : signZ x.neg (lval x.num) = signQ (ratOf x) := by
  unfold signQ ratOf
  simp only [mkRat_neg_iff (underN_pos _), mkRat_pos_iff (underN_pos _)]
  unfold signZ sgn
  cases x.neg <;> by_cases h : lval x.num = 0 <;> simp [h] <;> omega
theorem signQ_le (q : Rat) : signQ q ≤ 0 ↔ q ≤ 0 := by
  unfold signQ
  by_cases h1 : q < 0
  · rw [if_pos h1]; simp; exact Rat.le_of_lt h1
  · rw [if_neg h1]
    by_cases h2 : 0 < q
    · rw [if_pos h2]; simp; exact Rat.not_le.2 h2
    · rw [if_neg h2]; simp; exact Rat.not_lt.1 h2
/-- What Cmp says. -/
def cmpQ (p q : Rat) : Int := if p < q then -1 else if q < p then 1 else 0
theorem signQ_sub (p q : Rat) : signQ (p - q) = cmpQ p q := by
  unfold signQ cmpQ
  have h1 : p - q < 0 ↔ p < q := by grind
  have h2 : 0 < p - q ↔ q < p := by grind
  simp only [h1, h2]

end Go.Proofs.Ythlmgejikbmmaaa

/-
  How long the limbs of a rational number are, through the operations. No Go in sight.
-/
namespace Go.Proofs.Ythlmgejikbmmaaa

/-- Both lists of limbs are short. -/
structure RatLe (x : RatL) (k : Nat) : Prop where
  num : x.num.length ≤ k
  den : x.den.length ≤ k
/-- Numerator and denominator have at most k limbs. -/
structure QLe (q : Rat) (k : Nat) : Prop where
  num : q.num.natAbs < 4294967296 ^ k
  den : q.den < 4294967296 ^ k
theorem QLe.mono {q : Rat} {k m : Nat} (h : QLe q k) (hm : k ≤ m) : QLe q m :=
  ⟨Nat.lt_of_lt_of_le h.num (Nat.pow_le_pow_right (by omega) hm), Nat.lt_of_lt_of_le h.den (Nat.pow_le_pow_right (by omega) hm)⟩
theorem RatLe.mono {x : RatL} {k m : Nat} (h : RatLe x k) (hm : k ≤ m) : RatLe x m := ⟨Nat.le_trans h.num hm, Nat.le_trans h.den hm⟩
theorem QLe.mk' {z : Int} {d k : Nat} (h1 : z.natAbs < 4294967296 ^ k) (h2 : d < 4294967296 ^ k) (hd : 0 < d) : QLe (mkRat z d) k := by
  rw [Rat.mkRat_def, dif_neg (by omega), Rat.normalize_eq]
  refine ⟨Nat.lt_of_le_of_lt ?_ h1, Nat.lt_of_le_of_lt (Nat.div_le_self _ _) h2⟩
  rw [Int.natAbs_ediv_of_dvd (Int.ofNat_dvd_left.2 (Nat.gcd_dvd_left _ _))]
  exact Nat.div_le_self _ _
theorem QLe.ratL {q : Rat} {k : Nat} (h : QLe q k) : RatLe (ratL q) k := by
  refine ⟨limbs_len_le h.num, ?_⟩
  show (if q.den = 1 then [] else limbs q.den).length ≤ k
  split
  · simp
  · exact limbs_len_le h.den
theorem underN_lt {d : List Nat} {k : Nat} (hl : Lim d) (h : d.length ≤ k) : underN d < 4294967296 ^ (k + 1) := by
  have h1 := Nat.lt_of_lt_of_le (lval_lt hl) (Nat.pow_le_pow_right (show 0 < 4294967296 by omega) (show d.length ≤ k + 1 by omega))
  have h2 : 4294967296 ^ 1 ≤ 4294967296 ^ (k + 1) := Nat.pow_le_pow_right (by omega) (by omega)
  unfold underN
  split
  · omega
  · exact h1
theorem QLe.ratOf {x : RatL} {k : Nat} (hx : x.Lim) (h : RatLe x k) : QLe (ratOf x) (k + 1) := by
  refine QLe.mk' ?_ (underN_lt hx.2 h.den) (underN_pos _)
  rw [sgn_natAbs]
  exact Nat.lt_of_lt_of_le (lval_lt hx.1) (Nat.pow_le_pow_right (by omega) (Nat.le_succ_of_le h.num))
theorem QLe.neg {q : Rat} {k : Nat} (h : QLe q k) : QLe (-q) k := ⟨by rw [Rat.neg_num, Int.natAbs_neg]; exact h.num, by rw [Rat.neg_den]; exact h.den⟩
theorem QLe.mul {p q : Rat} {a b : Nat} (hp : QLe p a) (hq : QLe q b) : QLe (p * q) (a + b) := by
  rw [← Rat.mkRat_self p, ← Rat.mkRat_self q, Rat.mkRat_mul_mkRat]
  refine QLe.mk' ?_ ?_ (Nat.mul_pos p.den_pos q.den_pos)
  · rw [Int.natAbs_mul, Nat.pow_add]; exact Nat.mul_lt_mul'' hp.num hq.num
  · rw [Nat.pow_add]; exact Nat.mul_lt_mul'' hp.den hq.den
theorem QLe.add {p q : Rat} {a b : Nat} (hp : QLe p a) (hq : QLe q b) : QLe (p + q) (a + b + 1) := by
  rw [← Rat.mkRat_self p, ← Rat.mkRat_self q, Rat.mkRat_add_mkRat _ _ p.den_nz q.den_nz]
  have h1 : (p.num * (q.den : Int)).natAbs < 4294967296 ^ a * 4294967296 ^ b := by
    rw [Int.natAbs_mul, Int.natAbs_natCast]; exact Nat.mul_lt_mul'' hp.num hq.den
  have h2 : (q.num * (p.den : Int)).natAbs < 4294967296 ^ a * 4294967296 ^ b := by
    rw [Int.natAbs_mul, Int.natAbs_natCast, Nat.mul_comm (4294967296 ^ a)]; exact Nat.mul_lt_mul'' hq.num hp.den
  refine QLe.mk' ?_ ?_ (Nat.mul_pos p.den_pos q.den_pos)
  · have h3 := Int.natAbs_add_le (p.num * (q.den : Int)) (q.num * (p.den : Int))
    rw [Nat.pow_succ, Nat.pow_add]
    omega
  · have h3 := Nat.mul_lt_mul'' hp.den hq.den
    rw [Nat.pow_succ, Nat.pow_add]
    omega
theorem QLe.sub {p q : Rat} {a b : Nat} (hp : QLe p a) (hq : QLe q b) : QLe (p - q) (a + b + 1) := by
  rw [Rat.sub_eq_add_neg]; exact hp.add hq.neg
theorem QLe.inv {q : Rat} {k : Nat} (h : QLe q k) : QLe q⁻¹ k := by
  by_cases h0 : q = 0
  · subst h0; rw [Rat.inv_zero]; exact h
  · have hn : q.num ≠ 0 := fun e => h0 (Rat.num_eq_zero.1 e)
    have e : q⁻¹ = mkRat (sgn (decide (q.num < 0)) q.den) q.num.natAbs := by
      have h1 : q = mkRat (sgn (decide (q.num < 0)) q.num.natAbs) q.den := by
        have : sgn (decide (q.num < 0)) q.num.natAbs = q.num := by
          unfold sgn
          by_cases h : q.num < 0
          · rw [decide_eq_true h]; simp; omega
          · rw [decide_eq_false h]; simp; omega
        rw [this, Rat.mkRat_self]
      conv => lhs; rw [h1]
      rw [inv_mkRat']
    rw [e]
    exact QLe.mk' (by rw [sgn_natAbs]; exact h.den) h.num (by omega)
theorem QLe.div {p q : Rat} {a b : Nat} (hp : QLe p a) (hq : QLe q b) : QLe (p / q) (a + b) := by
  rw [Rat.div_def]; exact hp.mul hq.inv

end Go.Proofs.Ythlmgejikbmmaaa

/-
  The plain law of layer 13: the shapes of a model, its first layers, a layer more. No Go in sight.
-/
namespace Go.Proofs.Ythlmgejikbmmaaa
open Go.RowKit

theorem outSL_fit {input : List Int} {S : List (List Int)} {l : LayL} (h1 : validL input = true) (h2 : S.length + 1 ≤ 64) (h3 : layOK l S.length = true) (h4 : S.all validL = true) :
    outSL input S l = if (rawL input S l).2 && validL (rawL input S l).1 then ((rawL input S l).1, 0) else ([], 7) := by
  unfold outSL
  rw [h1, h3, h4, decide_eq_true h2]
  rfl
theorem outSL_cases (input : List Int) (S : List (List Int)) (l : LayL) :
    ((outSL input S l).2 = 1 ∧ (outSL input S l).1 = [] ∧ ((validL input && (decide (S.length + 1 ≤ 64) && layOK l S.length)) && S.all validL) = false) ∨
    ((((validL input && (decide (S.length + 1 ≤ 64) && layOK l S.length)) && S.all validL) = true) ∧ ((outSL input S l).2 = 7 ∧ (outSL input S l).1 = [] ∧ ((rawL input S l).2 && validL (rawL input S l).1) = false ∨
      (outSL input S l).2 = 0 ∧ (outSL input S l).1 = (rawL input S l).1 ∧ (rawL input S l).2 = true ∧ validL (rawL input S l).1 = true)) := by
  unfold outSL
  cases h : ((validL input && (decide (S.length + 1 ≤ 64) && layOK l S.length)) && S.all validL) with
  | false => exact .inl ⟨rfl, rfl, rfl⟩
  | true =>
    refine .inr ⟨rfl, ?_⟩
    cases h2 : ((rawL input S l).2 && validL (rawL input S l).1) with
    | false => exact .inl ⟨rfl, rfl, rfl⟩
    | true =>
      rw [Bool.and_eq_true] at h2
      exact .inr ⟨rfl, rfl, h2.1, h2.2⟩
theorem outSL_valid {input : List Int} {S : List (List Int)} {l : LayL} (h : (outSL input S l).2 = 0) : validL (outSL input S l).1 = true := by
  rcases outSL_cases input S l with ⟨h1, _, _⟩ | ⟨_, ⟨h1, _, _⟩ | ⟨_, h2, _, h3⟩⟩
  · omega
  · omega
  · rw [h2]; exact h3
theorem outSL_seven {input : List Int} {S : List (List Int)} {l : LayL} (h1 : validL input = true) (h2 : S.length + 1 ≤ 64) (h3 : layOK l S.length = true) (h4 : S.all validL = true) (h : (outSL input S l).2 ≠ 0) : (outSL input S l).2 = 7 := by
  rcases outSL_cases input S l with ⟨_, _, k⟩ | ⟨_, ⟨k, _, _⟩ | ⟨k, _, _, _⟩⟩
  · rw [h1, h3, h4, decide_eq_true h2] at k; cases k
  · exact k
  · exact absurd k h

theorem shapesFrom_cons (input : List Int) (S : List (List Int)) (l : LayL) (r : List LayL) :
    shapesFrom input S (l :: r) = if (outSL input S l).2 = 0 then shapesFrom input (S ++ [(outSL input S l).1]) r else ([], S.length, (outSL input S l).2) := by
  rw [shapesFrom]
/-- What a list of shapes is that a model has. -/
def Chain (input : List Int) (S T : List (List Int)) (L : List LayL) : Prop :=
  T.length = L.length ∧ ∀ (j : Nat) (s : List Int) (l : LayL), T[j]? = some s → L[j]? = some l → outSL input (S ++ T.take j) l = (s, 0)
theorem Chain.run {input : List Int} : ∀ {L : List LayL} {S T : List (List Int)}, Chain input S T L → shapesFrom input S L = (S ++ T, 0, 0) := by
  intro L
  induction L with
  | nil =>
    intro S T h
    have : T = [] := List.eq_nil_of_length_eq_zero h.1
    subst this
    simp [shapesFrom]
  | cons l r ih =>
    intro S T h
    obtain ⟨hl, hc⟩ := h
    match T, hl with
    | s :: T', hl =>
      have h0 := hc 0 s l rfl rfl
      rw [List.take_zero, List.append_nil] at h0
      have hn : Chain input (S ++ [s]) T' r := by
        refine ⟨by simpa using hl, fun j s' l' h1 h2 => ?_⟩
        have := hc (j + 1) s' l' h1 h2
        rw [List.take_succ_cons] at this
        rw [List.append_assoc]
        exact this
      rw [shapesFrom_cons, h0]
      simp only [if_true]
      rw [ih hn, List.append_assoc]
      rfl
theorem shapesFrom_chain {input : List Int} : ∀ (L : List LayL) (S : List (List Int)), (∃ T, Chain input S T L ∧ shapesFrom input S L = (S ++ T, 0, 0)) ∨ ((shapesFrom input S L).2.2 ≠ 0 ∧ (shapesFrom input S L).1 = []) := by
  intro L
  induction L with
  | nil => intro S; exact .inl ⟨[], ⟨rfl, by simp⟩, by simp [shapesFrom]⟩
  | cons l r ih =>
    intro S
    rw [shapesFrom_cons]
    by_cases h : (outSL input S l).2 = 0
    · rw [if_pos h]
      rcases ih (S ++ [(outSL input S l).1]) with ⟨T, ⟨h1, h2⟩, h3⟩ | h1
      · refine .inl ⟨(outSL input S l).1 :: T, ⟨by simp [h1], fun j s l' hs hl => ?_⟩, by rw [h3, List.append_assoc]; rfl⟩
        cases j with
        | zero =>
          simp at hs hl
          subst hs hl
          rw [List.take_zero, List.append_nil, ← h]
        | succ j =>
          have := h2 j s l' (by simpa using hs) (by simpa using hl)
          rw [List.append_assoc] at this
          rw [List.take_succ_cons]
          exact this
      · exact .inr h1
    · rw [if_neg h]
      exact .inr ⟨h, rfl⟩
theorem Chain.take {input : List Int} {T : List (List Int)} {L : List LayL} (h : Chain input [] T L) (n : Nat) : Chain input [] (T.take n) (L.take n) := by
  refine ⟨by rw [List.length_take, List.length_take, h.1], fun j s l hs hl => ?_⟩
  have hlt := (List.getElem?_eq_some_iff.1 hs).1
  rw [List.length_take] at hlt
  rw [List.getElem?_take, if_pos (by omega)] at hs hl
  have := h.2 j s l hs hl
  rw [List.take_take, Nat.min_eq_left (by omega)]
  exact this
theorem Chain.valid {input : List Int} {T : List (List Int)} {L : List LayL} (h : Chain input [] T L) : T.all validL = true := by
  rw [List.all_eq_true]
  intro s hs
  obtain ⟨j, hj⟩ := List.getElem?_of_mem hs
  have hlt := (List.getElem?_eq_some_iff.1 hj).1
  obtain ⟨l, hl⟩ : ∃ l, L[j]? = some l := ⟨L[j]'(by rw [← h.1]; exact hlt), List.getElem?_eq_getElem _⟩
  have := h.2 j s l hj hl
  have h2 := outSL_valid (input := input) (S := [] ++ T.take j) (l := l) (by rw [this])
  rw [this] at h2
  exact h2
theorem shapesFrom_app {input : List Int} {T : List (List Int)} {L : List LayL} (h : Chain input [] T L) (l : LayL) :
    shapesFrom input [] (L ++ [l]) = if (outSL input T l).2 = 0 then (T ++ [(outSL input T l).1], 0, 0) else ([], (T.length : Int), (outSL input T l).2) := by
  have key : ∀ (L : List LayL) (S T : List (List Int)), Chain input S T L → shapesFrom input S (L ++ [l]) = shapesFrom input (S ++ T) [l] := by
    intro L
    induction L with
    | nil => intro S T h; have : T = [] := List.eq_nil_of_length_eq_zero h.1; subst this; simp
    | cons a r ih =>
      intro S T h
      obtain ⟨hl, hc⟩ := h
      match T, hl with
      | s :: T', hl =>
        have h0 := hc 0 s a rfl rfl
        rw [List.take_zero, List.append_nil] at h0
        have hn : Chain input (S ++ [s]) T' r := by
          refine ⟨by simpa using hl, fun j s' l' h1 h2 => ?_⟩
          have := hc (j + 1) s' l' h1 h2
          rw [List.take_succ_cons] at this
          rw [List.append_assoc]
          exact this
        rw [List.cons_append, shapesFrom_cons, h0]
        simp only [if_true]
        rw [ih _ _ hn, List.append_assoc]
        rfl
  rw [key L [] T h, List.nil_append, shapesFrom_cons]
  rfl

/-- The errors of a valid model are those of shapes. -/
theorem shapesFrom_seven {input : List Int} (hi : validL input = true) : ∀ (L : List LayL) (S : List (List Int)), S.all validL = true → S.length + L.length ≤ 64 → laysFrom L S.length = true → (shapesFrom input S L).2.2 = 0 ∨ (shapesFrom input S L).2.2 = 7 := by
  intro L
  induction L with
  | nil => intro S _ _ _; exact .inl rfl
  | cons l r ih =>
    intro S hS hl hok
    unfold laysFrom at hok
    rw [Bool.and_eq_true] at hok
    rw [shapesFrom_cons]
    by_cases h : (outSL input S l).2 = 0
    · rw [if_pos h]
      refine ih _ ?_ ?_ ?_
      · rw [List.all_append, hS, List.all_cons, List.all_nil, outSL_valid h]; rfl
      · simp at hl ⊢; omega
      · rw [List.length_append]; simpa using hok.2
    · rw [if_neg h]
      exact .inr (outSL_seven hi (by simp at hl; omega) hok.1 hS h)
theorem shapesL_cases (m : ModL) : (validM m = false ∧ shapesL m = ([], 0, 1)) ∨ (validM m = true ∧ ((∃ T, Chain m.input [] T m.layers ∧ shapesL m = (T, 0, 0)) ∨ ((shapesL m).2.2 = 7 ∧ (shapesL m).1 = []))) := by
  unfold shapesL
  cases h : validM m with
  | false => exact .inl ⟨rfl, rfl⟩
  | true =>
    refine .inr ⟨rfl, ?_⟩
    rw [if_pos rfl]
    have hv := h
    unfold validM at hv
    simp only [Bool.and_eq_true, decide_eq_true_eq] at hv
    rcases shapesFrom_chain (input := m.input) m.layers [] with ⟨T, h1, h2⟩ | ⟨h1, h2⟩
    · exact .inl ⟨T, h1, by simpa using h2⟩
    · exact .inr ⟨(shapesFrom_seven hv.1 m.layers [] rfl (by simpa using hv.2.1) (by simpa using hv.2.2)).resolve_left h1, h2⟩
theorem validM_take {m : ModL} (n : Nat) (h : validM m = true) : validM ⟨m.input, m.layers.take n⟩ = true := by
  unfold validM at h ⊢
  simp only [Bool.and_eq_true, decide_eq_true_eq] at h ⊢
  exact ⟨h.1, by rw [List.length_take]; omega, laysFrom_take n h.2.2⟩
/-- The shapes of a model without its last layers. -/
theorem shapesL_take {m : ModL} (n : Nat) (h : (shapesL m).2.2 = 0) : shapesL ⟨m.input, m.layers.take n⟩ = ((shapesL m).1.take n, 0, 0) ∧ (shapesL m).1.length = m.layers.length := by
  rcases shapesL_cases m with ⟨_, h1⟩ | ⟨hv, ⟨T, h1, h2⟩ | ⟨h1, _⟩⟩
  · rw [h1] at h; cases h
  · rw [h2]
    refine ⟨?_, h1.1⟩
    unfold shapesL
    rw [validM_take n hv, if_pos rfl]
    have := (h1.take n).run
    rw [List.nil_append] at this
    exact this
  · omega
/-- A layer more. -/
theorem shapesL_app {m : ModL} (l : LayL) (h : (shapesL m).2.2 = 0) (hl : m.layers.length + 1 ≤ 64) :
    ((outSL m.input (shapesL m).1 l).2 = 0 ∧ shapesL ⟨m.input, m.layers ++ [l]⟩ = ((shapesL m).1 ++ [(outSL m.input (shapesL m).1 l).1], 0, 0)) ∨
    ((outSL m.input (shapesL m).1 l).2 = 7 ∧ shapesL ⟨m.input, m.layers ++ [l]⟩ = ([], (m.layers.length : Int), 7)) ∨
    ((outSL m.input (shapesL m).1 l).2 = 1 ∧ shapesL ⟨m.input, m.layers ++ [l]⟩ = ([], 0, 1)) := by
  rcases shapesL_cases m with ⟨_, h1⟩ | ⟨hv, ⟨T, h1, h2⟩ | ⟨h1, _⟩⟩
  · rw [h1] at h; cases h
  · rw [h2]
    obtain ⟨hi, hlen, hat⟩ := validM_at hv
    have hTv := h1.valid
    have hTl := h1.1
    unfold validM at hv
    simp only [Bool.and_eq_true, decide_eq_true_eq] at hv
    by_cases hok : layOK l T.length = true
    · have hvm : validM ⟨m.input, m.layers ++ [l]⟩ = true := by
        unfold validM
        simp only [Bool.and_eq_true, decide_eq_true_eq]
        refine ⟨hv.1, by simpa using hl, ?_⟩
        rw [laysFrom_append, hv.2.2]
        simp only [laysFrom, Bool.and_true, Bool.true_and, Int.zero_add]
        rw [← hTl]; exact hok
      have happ := shapesFrom_app h1 l
      have e : shapesL ⟨m.input, m.layers ++ [l]⟩ = shapesFrom m.input [] (m.layers ++ [l]) := by unfold shapesL; rw [hvm]; rfl
      rw [e, happ]
      by_cases h0 : (outSL m.input T l).2 = 0
      · exact .inl ⟨h0, by rw [if_pos h0]⟩
      · have h7 := outSL_seven hi (by omega) hok hTv h0
        exact .inr (.inl ⟨h7, by rw [if_neg h0, h7, hTl]⟩)
    · rw [Bool.not_eq_true] at hok
      have hvm : validM ⟨m.input, m.layers ++ [l]⟩ = false := by
        unfold validM
        rw [laysFrom_append]
        simp only [laysFrom, Bool.and_true, Int.zero_add]
        rw [← hTl, hok]
        simp
      refine .inr (.inr ⟨?_, by unfold shapesL; rw [hvm]; rfl⟩)
      unfold outSL
      rw [hok]
      simp
  · omega
theorem validL_size {s : List Int} (h : validL s = true) : 1 ≤ sizeL s ∧ sizeL s ≤ 16384 := by
  have key : ∀ (l : List Int) (p : Int), 1 ≤ p → p ≤ 16384 → validFrom l p = true → 1 ≤ prodFrom l p ∧ prodFrom l p ≤ 16384 := by
    intro l
    induction l with
    | nil => intro p h1 h2 _; exact ⟨h1, h2⟩
    | cons d r ih =>
      intro p h1 h2 h
      simp only [validFrom] at h
      split at h
      · cases h
      · rename_i hc
        have := mul_bd11 h1 h2 (d := d) (by omega) (by omega)
        exact ih _ this.1 (by omega) h
  unfold sizeL
  rw [if_pos h]
  exact key s 1 (by omega) (by omega) (by have := validL_from h; simpa using this)
theorem sizeL_one {n : Int} (h1 : 1 ≤ n) (h2 : n ≤ 16384) : validL [n] = true ∧ sizeL [n] = n := by
  have h : validL [n] = true := by
    unfold validL validFrom
    rw [if_neg (by omega)]
    simp [validFrom]
  exact ⟨h, by unfold sizeL; rw [if_pos h]; simp [prodFrom]⟩
/-- A layer that keeps the number of elements. -/
theorem outSL_keeps {input : List Int} {S : List (List Int)} {l : LayL} (h : (outSL input S l).2 = 0) (hk : 5 ≤ l.kind) : sizeL (outSL input S l).1 = sizeL (currL input S) := by
  rcases outSL_cases input S l with ⟨h1, _, _⟩ | ⟨hc, ⟨h1, _, _⟩ | ⟨_, h2, _, h3⟩⟩
  · omega
  · omega
  · rw [h2]
    rw [h2] at *
    have hv : validL (currL input S) = true := by
      simp only [Bool.and_eq_true] at hc
      unfold currL
      cases hg : S.getLast? with
      | none => exact hc.1.1
      | some s =>
        have := List.mem_of_getLast? hg
        exact List.all_eq_true.1 hc.2 s this
    unfold rawL
    rw [if_neg (by omega), if_neg (by omega), if_neg (by omega)]
    by_cases k6 : l.kind = 6
    · rw [if_pos k6]
      have := validL_size hv
      exact (sizeL_one this.1 this.2).2
    · rw [if_neg k6]
      split <;> rfl

end Go.Proofs.Ythlmgejikbmmaaa
