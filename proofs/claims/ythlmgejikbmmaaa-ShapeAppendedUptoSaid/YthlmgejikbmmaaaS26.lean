/-
  Contracts of the functions that the statements reach, in the order in which they are built: ModQ, ModR, ModS.
-/
import Derived.Test.YthlmgejikbmmaaaS25
set_option linter.unusedVariables false
set_option linter.unusedSimpArgs false
set_option linter.constructorNameAsVariable false
set_option linter.deprecated false

/-
  The reference of layer 12: layer, the kinds with weights. By contract. Printed by genModP.py.
-/
namespace Go.Proofs.Ythlmgejikbmmaaa
open Go.RowKit

set_option maxRecDepth 100000 in
set_option maxHeartbeats 12800000 in
theorem r12Layer1 {w : World} {v : Value} {l : LayL} (hv : LayV w v l) (hr : LayRange l) (hle : LayLe l) (i : Int) (hi : 0 ≤ i) (hi2 : i ≤ 1000000) (hk : l.kind = 1) :
    Calls Try.prog 39 #[v, .int .i64 i] w fun e w' => e = .returned (.bool (layOK l i)) ∧ Below w.heap.size w w' := by
  rw [← refLay_eq]
  obtain ⟨a1, a2, c1, c2, rfl, r1, r2⟩ := hv.ex
  have q1 := r1.len
  have q2 := r2.len
  have R1 := Lib.hid r1
  have R2 := Lib.hid r2
  have HLe := Lib.hid hle
  generalize hRr : refLay l i = RR
  unfold refLay at hRr
  have HRd := Lib.hid hRr
  have HKD := Lib.hid hk
  clear hRr hv r1 r2 hr hle hk
  go_enter Try.func39, Try.ntmps39
  go_upto_region 1 with fail
  have hb0 : Below w.heap.size w (w.alloc (.cells #[.int .i64 l.kind, .int .i64 l.frm, .int .i64 l.out, .int .i64 l.kh, .int .i64 l.kw, .int .i64 l.stride, .int .i64 l.pad, .slice a1 l.weights.length c1, .slice a2 l.bias.length c2] 26)) := (Below.refl _ _).alloc (Nat.le_refl _) _
  have hx := Box9.alloc w (.int .i64 l.kind) (.int .i64 l.frm) (.int .i64 l.out) (.int .i64 l.kh) (.int .i64 l.kw) (.int .i64 l.stride) (.int .i64 l.pad) (.slice a1 l.weights.length c1) (.slice a2 l.bias.length c2) 26
  generalize w.alloc (.cells #[.int .i64 l.kind, .int .i64 l.frm, .int .i64 l.out, .int .i64 l.kh, .int .i64 l.kw, .int .i64 l.stride, .int .i64 l.pad, .slice a1 l.weights.length c1, .slice a2 l.bias.length c2] 26) = W at *
  have HB := Lib.hid hb0
  have HX := Lib.hid hx
  clear hx hb0
  obtain ⟨x0, x1, x2, x3, x4, x5, x6, x7, x8, xlt⟩ := HX.out
  have C1 : Hid (∀ W, Calls Try.prog 62 #[.int .i64 l.kh, .int .i64 1, .int .i64 64] W fun e w' => e = .returned (.bool (sidB l.kh)) ∧ W = w') := fun W => by rw [← wthn_sid]; exact r12Within _ _ _ W
  have C2 : Hid (∀ W, Calls Try.prog 62 #[.int .i64 l.kw, .int .i64 1, .int .i64 64] W fun e w' => e = .returned (.bool (sidB l.kw)) ∧ W = w') := fun W => by rw [← wthn_sid]; exact r12Within _ _ _ W
  have C3 : Hid (∀ W, Calls Try.prog 62 #[.int .i64 l.stride, .int .i64 1, .int .i64 64] W fun e w' => e = .returned (.bool (sidB l.stride)) ∧ W = w') := fun W => by rw [← wthn_sid]; exact r12Within _ _ _ W
  go_cut [5] (fun s5 wx => Hid (.bool (kerB l) = s5) ∧ Hid (W = wx))
  case first =>
    have HK : Hid (kerB l = (sidB l.kh && (sidB l.kw && sidB l.stride))) := rfl
    cases e1 : sidB l.kh with
    | false =>
      rw [e1] at C1 HK
      clear e1
      go_wp2_with fail
      refine (C1.out _).mono ?_
      rintro e w' ⟨rfl, rfl⟩
      go_wp2_with fail
      go_meet
      exact ⟨by unfold Hid; rw [HK.out]; rfl, rfl⟩
    | true =>
      rw [e1] at C1 HK
      clear e1
      cases e2 : sidB l.kw with
      | false =>
        rw [e2] at C2 HK
        clear e2
        go_wp2_with fail
        refine (C1.out _).mono ?_
        rintro e w' ⟨rfl, rfl⟩
        go_wp2_with fail
        refine (C2.out _).mono ?_
        rintro e w' ⟨rfl, rfl⟩
        go_wp2_with fail
        go_meet
        exact ⟨by unfold Hid; rw [HK.out]; rfl, rfl⟩
      | true =>
        rw [e2] at C2 HK
        clear e2
        generalize sidB l.stride = z at *
        go_wp2_with fail
        refine (C1.out _).mono ?_
        rintro e w' ⟨rfl, rfl⟩
        go_wp2_with fail
        refine (C2.out _).mono ?_
        rintro e w' ⟨rfl, rfl⟩
        go_wp2_with fail
        refine (C3.out _).mono ?_
        rintro e w' ⟨rfl, rfl⟩
        go_wp2_with fail
        go_meet
        exact ⟨by unfold Hid; rw [HK.out]; rfl, rfl⟩

  case rest =>
    obtain ⟨hs, hwx⟩ := hcut
    have e1 := hs.out
    have e2 := hwx.out
    clear hs hwx
    subst e1
    subst e2
    go_upto_region 2 with fail
    go_cut [6] (fun s6 wx => Hid (.bool (noneL l) = s6) ∧ Hid (W = wx))
    case first =>
      have HK : Hid (noneL l = (((l.weights.length : Int) == 0) && ((l.bias.length : Int) == 0))) := rfl
      cases f0 : ((l.weights.length : Int) == 0) with
      | false =>
        go_wp2_with fail
        go_meet
        exact ⟨by unfold Hid; rw [HK.out, f0]; rfl, rfl⟩
      | true =>
        cases f1 : ((l.bias.length : Int) == 0) with
        | false =>
          go_wp2_with fail
          go_meet
          exact ⟨by unfold Hid; rw [HK.out, f0, f1]; rfl, rfl⟩
        | true =>
          go_wp2_with fail
          go_meet
          exact ⟨by unfold Hid; rw [HK.out, f0, f1]; rfl, rfl⟩
    case rest =>
      obtain ⟨hs, hwx⟩ := hcut
      have e1 := hs.out
      have e2 := hwx.out
      clear hs hwx
      subst e1
      subst e2
      go_upto_region 3 with fail
      go_cut [7] (fun s7 wx => Hid (.bool (flatB l) = s7) ∧ Hid (W = wx))
      case first =>
        have HK : Hid (flatB l = ((l.kh == 0) && ((l.kw == 0) && ((l.stride == 0) && (l.pad == 0))))) := rfl
        cases f0 : (l.kh == 0) with
        | false =>
          go_wp2_with fail
          go_meet
          exact ⟨by unfold Hid; rw [HK.out, f0]; rfl, rfl⟩
        | true =>
          cases f1 : (l.kw == 0) with
          | false =>
            go_wp2_with fail
            go_meet
            exact ⟨by unfold Hid; rw [HK.out, f0, f1]; rfl, rfl⟩
          | true =>
            cases f2 : (l.stride == 0) with
            | false =>
              go_wp2_with fail
              go_meet
              exact ⟨by unfold Hid; rw [HK.out, f0, f1, f2]; rfl, rfl⟩
            | true =>
              cases f3 : (l.pad == 0) with
              | false =>
                go_wp2_with fail
                go_meet
                exact ⟨by unfold Hid; rw [HK.out, f0, f1, f2, f3]; rfl, rfl⟩
              | true =>
                go_wp2_with fail
                go_meet
                exact ⟨by unfold Hid; rw [HK.out, f0, f1, f2, f3]; rfl, rfl⟩
      case rest =>
        obtain ⟨hs, hwx⟩ := hcut
        have e1 := hs.out
        have e2 := hwx.out
        clear hs hwx
        subst e1
        subst e2
        go_upto_region 4 with fail
        obtain ⟨K, hK⟩ : ∃ K, kerB l = K := ⟨_, rfl⟩
        have HKe := Lib.hid hK
        rw [hK] at HRd ⊢
        clear hK
        generalize noneL l = NB at *
        generalize flatB l = FB at *
        have CA := Lib.hid (r12Canonical c1 (R1.out.below HB.out) HLe.out.wts)
        cases h1 : l.weights.all validR with
        | false =>
          have HF : Hid (RR = false) := by unfold Hid; rw [← HRd.out, h1]; rfl
          rw [h1] at CA
          clear h1
          go_wp2_with fail
          refine CA.out.mono ?_
          rintro e w1 ⟨rfl, hb1⟩
          have HB1 := Lib.hid (HB.out.trans (hb1.mono HB.out.size))
          clear hb1 x0 x1 x2 x3 x4 x5 x6 x7 x8
          go_wp2
          go_ret
          exact ⟨ret_bool HF.out.symm, HB1.out⟩
        | true =>
          rw [h1] at CA
          have HE1 := Lib.hid h1
          clear h1
          go_wp2_with fail
          refine CA.out.mono ?_
          rintro e w1 ⟨rfl, hb1⟩
          have HB1 := Lib.hid (HB.out.trans (hb1.mono HB.out.size))
          have HX1 := Lib.hid (HX.out.below hb1)
          clear hb1 x0 x1 x2 x3 x4 x5 x6 x7 x8 xlt CA
          obtain ⟨x0, x1, x2, x3, x4, x5, x6, x7, x8, xlt⟩ := HX1.out
          have CB := Lib.hid (r12Canonical c2 (R2.out.below HB1.out) HLe.out.bias)
          cases h2 : l.bias.all validR with
          | false =>
            have HF : Hid (RR = false) := by unfold Hid; rw [← HRd.out, HE1.out, h2]; rfl
            rw [h2] at CB
            clear h2
            go_wp2_with fail
            refine CB.out.mono ?_
            rintro e w2 ⟨rfl, hb2⟩
            have HB2 := Lib.hid (HB1.out.trans (hb2.mono HB1.out.size))
            clear hb2 x0 x1 x2 x3 x4 x5 x6 x7 x8
            go_wp2
            go_ret
            exact ⟨ret_bool HF.out.symm, HB2.out⟩
          | true =>
            rw [h2] at CB
            have HE2 := Lib.hid h2
            clear h2
            go_wp2_with fail
            refine CB.out.mono ?_
            rintro e w2 ⟨rfl, hb2⟩
            have HB2 := Lib.hid (HB1.out.trans (hb2.mono HB1.out.size))
            have HX2 := Lib.hid (HX1.out.below hb2)
            clear hb2 x0 x1 x2 x3 x4 x5 x6 x7 x8 xlt CB
            obtain ⟨x0, x1, x2, x3, x4, x5, x6, x7, x8, xlt⟩ := HX2.out
            have hk := HKD.out
            have HRk : Hid ((FB && ((l.frm == 0) && (wthn l.out 1 16384 && (((l.bias.length : Int) == l.out) && multB l.weights.length l.out)))) = RR) := by
              have h := HRd.out
              rw [HE1.out, HE2.out, Bool.true_and, Bool.true_and, if_pos hk] at h
              exact h
            have k1 : (l.kind == 1) = true := by rw [beq_iff_eq]; omega
            clear hk
            cases FB with
            | false =>
              have HR : Hid (RR = false) := by unfold Hid; rw [← HRk.out]; rfl
              go_wp2
              go_ret
              exact ⟨ret_bool HR.out.symm, HB2.out⟩
            | true =>
              cases g1 : (l.frm == 0) with
              | false =>
                have HR : Hid (RR = false) := by unfold Hid; rw [← HRk.out, g1]; rfl
                go_wp2
                go_ret
                exact ⟨ret_bool HR.out.symm, HB2.out⟩
              | true =>
                have HW2 := Lib.hid (fun W => r12Within l.out 1 16384 W)
                cases g2 : wthn l.out 1 16384 with
                | false =>
                  have HG2 := Lib.hid g2
                  rw [g2] at HW2
                  clear g2
                  have HR : Hid (RR = false) := by unfold Hid; rw [← HRk.out, g1, HG2.out]; rfl
                  go_wp2_with fail
                  refine (HW2.out _).mono ?_
                  rintro e w' ⟨rfl, rfl⟩
                  go_wp2
                  go_ret
                  exact ⟨ret_bool HR.out.symm, HB2.out⟩
                | true =>
                  have HG2 := Lib.hid g2
                  rw [g2] at HW2
                  obtain ⟨o1, o2⟩ := wthn_iff.1 g2
                  clear g2
                  cases g3 : ((l.bias.length : Int) == l.out) with
                  | false =>
                    have HR : Hid (RR = false) := by unfold Hid; rw [← HRk.out, g1, HG2.out, g3]; rfl
                    go_wp2_with fail
                    refine (HW2.out _).mono ?_
                    rintro e w' ⟨rfl, rfl⟩
                    go_wp2
                    go_ret
                    exact ⟨ret_bool HR.out.symm, HB2.out⟩
                  | true =>
                    have HM := Lib.hid (fun W => r12Multiple l.weights.length l.out q1 (by omega) (by omega) W)
                    have HR : Hid (RR = multB l.weights.length l.out) := by unfold Hid; rw [← HRk.out, g1, HG2.out, g3]; rfl
                    generalize multB l.weights.length l.out = mb at *
                    go_wp2_with fail
                    refine (HW2.out _).mono ?_
                    rintro e w' ⟨rfl, rfl⟩
                    go_wp2_with fail
                    refine (HM.out _).mono ?_
                    rintro e w' ⟨rfl, rfl⟩
                    go_wp2
                    go_ret
                    exact ⟨ret_bool HR.out.symm, HB2.out⟩

set_option maxRecDepth 100000 in
set_option maxHeartbeats 12800000 in
theorem r12Layer2 {w : World} {v : Value} {l : LayL} (hv : LayV w v l) (hr : LayRange l) (hle : LayLe l) (i : Int) (hi : 0 ≤ i) (hi2 : i ≤ 1000000) (hk : l.kind = 2) :
    Calls Try.prog 39 #[v, .int .i64 i] w fun e w' => e = .returned (.bool (layOK l i)) ∧ Below w.heap.size w w' := by
  rw [← refLay_eq]
  obtain ⟨a1, a2, c1, c2, rfl, r1, r2⟩ := hv.ex
  have q1 := r1.len
  have q2 := r2.len
  have R1 := Lib.hid r1
  have R2 := Lib.hid r2
  have HLe := Lib.hid hle
  generalize hRr : refLay l i = RR
  unfold refLay at hRr
  have HRd := Lib.hid hRr
  have HKD := Lib.hid hk
  clear hRr hv r1 r2 hr hle hk
  go_enter Try.func39, Try.ntmps39
  go_upto_region 1 with fail
  have hb0 : Below w.heap.size w (w.alloc (.cells #[.int .i64 l.kind, .int .i64 l.frm, .int .i64 l.out, .int .i64 l.kh, .int .i64 l.kw, .int .i64 l.stride, .int .i64 l.pad, .slice a1 l.weights.length c1, .slice a2 l.bias.length c2] 26)) := (Below.refl _ _).alloc (Nat.le_refl _) _
  have hx := Box9.alloc w (.int .i64 l.kind) (.int .i64 l.frm) (.int .i64 l.out) (.int .i64 l.kh) (.int .i64 l.kw) (.int .i64 l.stride) (.int .i64 l.pad) (.slice a1 l.weights.length c1) (.slice a2 l.bias.length c2) 26
  generalize w.alloc (.cells #[.int .i64 l.kind, .int .i64 l.frm, .int .i64 l.out, .int .i64 l.kh, .int .i64 l.kw, .int .i64 l.stride, .int .i64 l.pad, .slice a1 l.weights.length c1, .slice a2 l.bias.length c2] 26) = W at *
  have HB := Lib.hid hb0
  have HX := Lib.hid hx
  clear hx hb0
  obtain ⟨x0, x1, x2, x3, x4, x5, x6, x7, x8, xlt⟩ := HX.out
  have C1 : Hid (∀ W, Calls Try.prog 62 #[.int .i64 l.kh, .int .i64 1, .int .i64 64] W fun e w' => e = .returned (.bool (sidB l.kh)) ∧ W = w') := fun W => by rw [← wthn_sid]; exact r12Within _ _ _ W
  have C2 : Hid (∀ W, Calls Try.prog 62 #[.int .i64 l.kw, .int .i64 1, .int .i64 64] W fun e w' => e = .returned (.bool (sidB l.kw)) ∧ W = w') := fun W => by rw [← wthn_sid]; exact r12Within _ _ _ W
  have C3 : Hid (∀ W, Calls Try.prog 62 #[.int .i64 l.stride, .int .i64 1, .int .i64 64] W fun e w' => e = .returned (.bool (sidB l.stride)) ∧ W = w') := fun W => by rw [← wthn_sid]; exact r12Within _ _ _ W
  go_cut [5] (fun s5 wx => Hid (.bool (kerB l) = s5) ∧ Hid (W = wx))
  case first =>
    have HK : Hid (kerB l = (sidB l.kh && (sidB l.kw && sidB l.stride))) := rfl
    cases e1 : sidB l.kh with
    | false =>
      rw [e1] at C1 HK
      clear e1
      go_wp2_with fail
      refine (C1.out _).mono ?_
      rintro e w' ⟨rfl, rfl⟩
      go_wp2_with fail
      go_meet
      exact ⟨by unfold Hid; rw [HK.out]; rfl, rfl⟩
    | true =>
      rw [e1] at C1 HK
      clear e1
      cases e2 : sidB l.kw with
      | false =>
        rw [e2] at C2 HK
        clear e2
        go_wp2_with fail
        refine (C1.out _).mono ?_
        rintro e w' ⟨rfl, rfl⟩
        go_wp2_with fail
        refine (C2.out _).mono ?_
        rintro e w' ⟨rfl, rfl⟩
        go_wp2_with fail
        go_meet
        exact ⟨by unfold Hid; rw [HK.out]; rfl, rfl⟩
      | true =>
        rw [e2] at C2 HK
        clear e2
        generalize sidB l.stride = z at *
        go_wp2_with fail
        refine (C1.out _).mono ?_
        rintro e w' ⟨rfl, rfl⟩
        go_wp2_with fail
        refine (C2.out _).mono ?_
        rintro e w' ⟨rfl, rfl⟩
        go_wp2_with fail
        refine (C3.out _).mono ?_
        rintro e w' ⟨rfl, rfl⟩
        go_wp2_with fail
        go_meet
        exact ⟨by unfold Hid; rw [HK.out]; rfl, rfl⟩

  case rest =>
    obtain ⟨hs, hwx⟩ := hcut
    have e1 := hs.out
    have e2 := hwx.out
    clear hs hwx
    subst e1
    subst e2
    go_upto_region 2 with fail
    go_cut [6] (fun s6 wx => Hid (.bool (noneL l) = s6) ∧ Hid (W = wx))
    case first =>
      have HK : Hid (noneL l = (((l.weights.length : Int) == 0) && ((l.bias.length : Int) == 0))) := rfl
      cases f0 : ((l.weights.length : Int) == 0) with
      | false =>
        go_wp2_with fail
        go_meet
        exact ⟨by unfold Hid; rw [HK.out, f0]; rfl, rfl⟩
      | true =>
        cases f1 : ((l.bias.length : Int) == 0) with
        | false =>
          go_wp2_with fail
          go_meet
          exact ⟨by unfold Hid; rw [HK.out, f0, f1]; rfl, rfl⟩
        | true =>
          go_wp2_with fail
          go_meet
          exact ⟨by unfold Hid; rw [HK.out, f0, f1]; rfl, rfl⟩
    case rest =>
      obtain ⟨hs, hwx⟩ := hcut
      have e1 := hs.out
      have e2 := hwx.out
      clear hs hwx
      subst e1
      subst e2
      go_upto_region 3 with fail
      go_cut [7] (fun s7 wx => Hid (.bool (flatB l) = s7) ∧ Hid (W = wx))
      case first =>
        have HK : Hid (flatB l = ((l.kh == 0) && ((l.kw == 0) && ((l.stride == 0) && (l.pad == 0))))) := rfl
        cases f0 : (l.kh == 0) with
        | false =>
          go_wp2_with fail
          go_meet
          exact ⟨by unfold Hid; rw [HK.out, f0]; rfl, rfl⟩
        | true =>
          cases f1 : (l.kw == 0) with
          | false =>
            go_wp2_with fail
            go_meet
            exact ⟨by unfold Hid; rw [HK.out, f0, f1]; rfl, rfl⟩
          | true =>
            cases f2 : (l.stride == 0) with
            | false =>
              go_wp2_with fail
              go_meet
              exact ⟨by unfold Hid; rw [HK.out, f0, f1, f2]; rfl, rfl⟩
            | true =>
              cases f3 : (l.pad == 0) with
              | false =>
                go_wp2_with fail
                go_meet
                exact ⟨by unfold Hid; rw [HK.out, f0, f1, f2, f3]; rfl, rfl⟩
              | true =>
                go_wp2_with fail
                go_meet
                exact ⟨by unfold Hid; rw [HK.out, f0, f1, f2, f3]; rfl, rfl⟩
      case rest =>
        obtain ⟨hs, hwx⟩ := hcut
        have e1 := hs.out
        have e2 := hwx.out
        clear hs hwx
        subst e1
        subst e2
        go_upto_region 4 with fail
        obtain ⟨K, hK⟩ : ∃ K, kerB l = K := ⟨_, rfl⟩
        have HKe := Lib.hid hK
        rw [hK] at HRd ⊢
        clear hK
        generalize noneL l = NB at *
        generalize flatB l = FB at *
        have CA := Lib.hid (r12Canonical c1 (R1.out.below HB.out) HLe.out.wts)
        cases h1 : l.weights.all validR with
        | false =>
          have HF : Hid (RR = false) := by unfold Hid; rw [← HRd.out, h1]; rfl
          rw [h1] at CA
          clear h1
          go_wp2_with fail
          refine CA.out.mono ?_
          rintro e w1 ⟨rfl, hb1⟩
          have HB1 := Lib.hid (HB.out.trans (hb1.mono HB.out.size))
          clear hb1 x0 x1 x2 x3 x4 x5 x6 x7 x8
          go_wp2
          go_ret
          exact ⟨ret_bool HF.out.symm, HB1.out⟩
        | true =>
          rw [h1] at CA
          have HE1 := Lib.hid h1
          clear h1
          go_wp2_with fail
          refine CA.out.mono ?_
          rintro e w1 ⟨rfl, hb1⟩
          have HB1 := Lib.hid (HB.out.trans (hb1.mono HB.out.size))
          have HX1 := Lib.hid (HX.out.below hb1)
          clear hb1 x0 x1 x2 x3 x4 x5 x6 x7 x8 xlt CA
          obtain ⟨x0, x1, x2, x3, x4, x5, x6, x7, x8, xlt⟩ := HX1.out
          have CB := Lib.hid (r12Canonical c2 (R2.out.below HB1.out) HLe.out.bias)
          cases h2 : l.bias.all validR with
          | false =>
            have HF : Hid (RR = false) := by unfold Hid; rw [← HRd.out, HE1.out, h2]; rfl
            rw [h2] at CB
            clear h2
            go_wp2_with fail
            refine CB.out.mono ?_
            rintro e w2 ⟨rfl, hb2⟩
            have HB2 := Lib.hid (HB1.out.trans (hb2.mono HB1.out.size))
            clear hb2 x0 x1 x2 x3 x4 x5 x6 x7 x8
            go_wp2
            go_ret
            exact ⟨ret_bool HF.out.symm, HB2.out⟩
          | true =>
            rw [h2] at CB
            have HE2 := Lib.hid h2
            clear h2
            go_wp2_with fail
            refine CB.out.mono ?_
            rintro e w2 ⟨rfl, hb2⟩
            have HB2 := Lib.hid (HB1.out.trans (hb2.mono HB1.out.size))
            have HX2 := Lib.hid (HX1.out.below hb2)
            clear hb2 x0 x1 x2 x3 x4 x5 x6 x7 x8 xlt CB
            obtain ⟨x0, x1, x2, x3, x4, x5, x6, x7, x8, xlt⟩ := HX2.out
            have hk := HKD.out
            have HRk : Hid ((K && ((l.frm == 0) && (decide (0 ≤ l.pad) && (decide (l.pad < l.kh) && (decide (l.pad < l.kw) && (wthn l.out 1 16384 && (((l.bias.length : Int) == l.out) && multB l.weights.length (l.out * l.kh * l.kw)))))))) = RR) := by
              have h := HRd.out
              rw [HE1.out, HE2.out, Bool.true_and, Bool.true_and, if_neg (by omega), if_pos hk] at h
              exact h
            have k1 : (l.kind == 1) = false := by rw [beq_eq_false_iff_ne]; omega
            have k2 : (l.kind == 2) = true := by rw [beq_iff_eq]; omega
            clear hk
            cases K with
            | false =>
              have HR : Hid (RR = false) := by unfold Hid; rw [← HRk.out]; rfl
              go_wp2
              go_ret
              exact ⟨ret_bool HR.out.symm, HB2.out⟩
            | true =>
              cases g1 : (l.frm == 0) with
              | false =>
                have HR : Hid (RR = false) := by unfold Hid; rw [← HRk.out, g1]; rfl
                go_wp2
                go_ret
                exact ⟨ret_bool HR.out.symm, HB2.out⟩
              | true =>
                by_cases g2 : 0 ≤ l.pad
                · by_cases g3 : l.pad < l.kh
                  · by_cases g4 : l.pad < l.kw
                    · have HW5 := Lib.hid (fun W => r12Within l.out 1 16384 W)
                      cases g5 : wthn l.out 1 16384 with
                      | false =>
                        have HG5 := Lib.hid g5
                        rw [g5] at HW5
                        clear g5
                        have HR : Hid (RR = false) := by unfold Hid; rw [← HRk.out, g1, decide_eq_true g2, decide_eq_true g3, decide_eq_true g4, HG5.out]; rfl
                        go_wp2_with fail
                        refine (HW5.out _).mono ?_
                        rintro e w' ⟨rfl, rfl⟩
                        go_wp2
                        go_ret
                        exact ⟨ret_bool HR.out.symm, HB2.out⟩
                      | true =>
                        have HG5 := Lib.hid g5
                        rw [g5] at HW5
                        obtain ⟨o1, o2⟩ := wthn_iff.1 g5
                        clear g5
                        cases g6 : ((l.bias.length : Int) == l.out) with
                        | false =>
                          have HR : Hid (RR = false) := by unfold Hid; rw [← HRk.out, g1, decide_eq_true g2, decide_eq_true g3, decide_eq_true g4, HG5.out, g6]; rfl
                          go_wp2_with fail
                          refine (HW5.out _).mono ?_
                          rintro e w' ⟨rfl, rfl⟩
                          go_wp2
                          go_ret
                          exact ⟨ret_bool HR.out.symm, HB2.out⟩
                        | true =>
                          obtain ⟨⟨u1, u2⟩, ⟨u3, u4⟩, _⟩ : (1 ≤ l.kh ∧ l.kh ≤ 64) ∧ (1 ≤ l.kw ∧ l.kw ≤ 64) ∧ (1 ≤ l.stride ∧ l.stride ≤ 64) := by have e2 := HKe.out; unfold kerB sidB at e2; simpa using e2
                          obtain ⟨⟨m1, m2⟩, m3, m4⟩ := conv_bd o1 o2 u1 u2 u3 u4
                          have HM := Lib.hid (fun W => r12Multiple l.weights.length (l.out * l.kh * l.kw) q1 (by omega) (by omega) W)
                          have HR : Hid (RR = multB l.weights.length (l.out * l.kh * l.kw)) := by unfold Hid; rw [← HRk.out, g1, decide_eq_true g2, decide_eq_true g3, decide_eq_true g4, HG5.out, g6]; rfl
                          generalize multB l.weights.length (l.out * l.kh * l.kw) = mb at *
                          go_wp2_with fail
                          refine (HW5.out _).mono ?_
                          rintro e w' ⟨rfl, rfl⟩
                          go_wp2_with fail
                          refine (HM.out _).mono ?_
                          rintro e w' ⟨rfl, rfl⟩
                          go_wp2
                          go_ret
                          exact ⟨ret_bool HR.out.symm, HB2.out⟩
                    · have HR : Hid (RR = false) := by unfold Hid; rw [← HRk.out, g1, decide_eq_true g2, decide_eq_true g3, decide_eq_false g4]; rfl
                      go_wp2
                      go_ret
                      exact ⟨ret_bool HR.out.symm, HB2.out⟩
                  · have HR : Hid (RR = false) := by unfold Hid; rw [← HRk.out, g1, decide_eq_true g2, decide_eq_false g3]; rfl
                    go_wp2
                    go_ret
                    exact ⟨ret_bool HR.out.symm, HB2.out⟩
                · have HR : Hid (RR = false) := by unfold Hid; rw [← HRk.out, g1, decide_eq_false g2]; rfl
                  go_wp2
                  go_ret
                  exact ⟨ret_bool HR.out.symm, HB2.out⟩

set_option maxRecDepth 100000 in
set_option maxHeartbeats 12800000 in
theorem r12Layer3 {w : World} {v : Value} {l : LayL} (hv : LayV w v l) (hr : LayRange l) (hle : LayLe l) (i : Int) (hi : 0 ≤ i) (hi2 : i ≤ 1000000) (hk : l.kind = 3) :
    Calls Try.prog 39 #[v, .int .i64 i] w fun e w' => e = .returned (.bool (layOK l i)) ∧ Below w.heap.size w w' := by
  rw [← refLay_eq]
  obtain ⟨a1, a2, c1, c2, rfl, r1, r2⟩ := hv.ex
  have q1 := r1.len
  have q2 := r2.len
  have R1 := Lib.hid r1
  have R2 := Lib.hid r2
  have HLe := Lib.hid hle
  generalize hRr : refLay l i = RR
  unfold refLay at hRr
  have HRd := Lib.hid hRr
  have HKD := Lib.hid hk
  clear hRr hv r1 r2 hr hle hk
  go_enter Try.func39, Try.ntmps39
  go_upto_region 1 with fail
  have hb0 : Below w.heap.size w (w.alloc (.cells #[.int .i64 l.kind, .int .i64 l.frm, .int .i64 l.out, .int .i64 l.kh, .int .i64 l.kw, .int .i64 l.stride, .int .i64 l.pad, .slice a1 l.weights.length c1, .slice a2 l.bias.length c2] 26)) := (Below.refl _ _).alloc (Nat.le_refl _) _
  have hx := Box9.alloc w (.int .i64 l.kind) (.int .i64 l.frm) (.int .i64 l.out) (.int .i64 l.kh) (.int .i64 l.kw) (.int .i64 l.stride) (.int .i64 l.pad) (.slice a1 l.weights.length c1) (.slice a2 l.bias.length c2) 26
  generalize w.alloc (.cells #[.int .i64 l.kind, .int .i64 l.frm, .int .i64 l.out, .int .i64 l.kh, .int .i64 l.kw, .int .i64 l.stride, .int .i64 l.pad, .slice a1 l.weights.length c1, .slice a2 l.bias.length c2] 26) = W at *
  have HB := Lib.hid hb0
  have HX := Lib.hid hx
  clear hx hb0
  obtain ⟨x0, x1, x2, x3, x4, x5, x6, x7, x8, xlt⟩ := HX.out
  have C1 : Hid (∀ W, Calls Try.prog 62 #[.int .i64 l.kh, .int .i64 1, .int .i64 64] W fun e w' => e = .returned (.bool (sidB l.kh)) ∧ W = w') := fun W => by rw [← wthn_sid]; exact r12Within _ _ _ W
  have C2 : Hid (∀ W, Calls Try.prog 62 #[.int .i64 l.kw, .int .i64 1, .int .i64 64] W fun e w' => e = .returned (.bool (sidB l.kw)) ∧ W = w') := fun W => by rw [← wthn_sid]; exact r12Within _ _ _ W
  have C3 : Hid (∀ W, Calls Try.prog 62 #[.int .i64 l.stride, .int .i64 1, .int .i64 64] W fun e w' => e = .returned (.bool (sidB l.stride)) ∧ W = w') := fun W => by rw [← wthn_sid]; exact r12Within _ _ _ W
  go_cut [5] (fun s5 wx => Hid (.bool (kerB l) = s5) ∧ Hid (W = wx))
  case first =>
    have HK : Hid (kerB l = (sidB l.kh && (sidB l.kw && sidB l.stride))) := rfl
    cases e1 : sidB l.kh with
    | false =>
      rw [e1] at C1 HK
      clear e1
      go_wp2_with fail
      refine (C1.out _).mono ?_
      rintro e w' ⟨rfl, rfl⟩
      go_wp2_with fail
      go_meet
      exact ⟨by unfold Hid; rw [HK.out]; rfl, rfl⟩
    | true =>
      rw [e1] at C1 HK
      clear e1
      cases e2 : sidB l.kw with
      | false =>
        rw [e2] at C2 HK
        clear e2
        go_wp2_with fail
        refine (C1.out _).mono ?_
        rintro e w' ⟨rfl, rfl⟩
        go_wp2_with fail
        refine (C2.out _).mono ?_
        rintro e w' ⟨rfl, rfl⟩
        go_wp2_with fail
        go_meet
        exact ⟨by unfold Hid; rw [HK.out]; rfl, rfl⟩
      | true =>
        rw [e2] at C2 HK
        clear e2
        generalize sidB l.stride = z at *
        go_wp2_with fail
        refine (C1.out _).mono ?_
        rintro e w' ⟨rfl, rfl⟩
        go_wp2_with fail
        refine (C2.out _).mono ?_
        rintro e w' ⟨rfl, rfl⟩
        go_wp2_with fail
        refine (C3.out _).mono ?_
        rintro e w' ⟨rfl, rfl⟩
        go_wp2_with fail
        go_meet
        exact ⟨by unfold Hid; rw [HK.out]; rfl, rfl⟩

  case rest =>
    obtain ⟨hs, hwx⟩ := hcut
    have e1 := hs.out
    have e2 := hwx.out
    clear hs hwx
    subst e1
    subst e2
    go_upto_region 2 with fail
    go_cut [6] (fun s6 wx => Hid (.bool (noneL l) = s6) ∧ Hid (W = wx))
    case first =>
      have HK : Hid (noneL l = (((l.weights.length : Int) == 0) && ((l.bias.length : Int) == 0))) := rfl
      cases f0 : ((l.weights.length : Int) == 0) with
      | false =>
        go_wp2_with fail
        go_meet
        exact ⟨by unfold Hid; rw [HK.out, f0]; rfl, rfl⟩
      | true =>
        cases f1 : ((l.bias.length : Int) == 0) with
        | false =>
          go_wp2_with fail
          go_meet
          exact ⟨by unfold Hid; rw [HK.out, f0, f1]; rfl, rfl⟩
        | true =>
          go_wp2_with fail
          go_meet
          exact ⟨by unfold Hid; rw [HK.out, f0, f1]; rfl, rfl⟩
    case rest =>
      obtain ⟨hs, hwx⟩ := hcut
      have e1 := hs.out
      have e2 := hwx.out
      clear hs hwx
      subst e1
      subst e2
      go_upto_region 3 with fail
      go_cut [7] (fun s7 wx => Hid (.bool (flatB l) = s7) ∧ Hid (W = wx))
      case first =>
        have HK : Hid (flatB l = ((l.kh == 0) && ((l.kw == 0) && ((l.stride == 0) && (l.pad == 0))))) := rfl
        cases f0 : (l.kh == 0) with
        | false =>
          go_wp2_with fail
          go_meet
          exact ⟨by unfold Hid; rw [HK.out, f0]; rfl, rfl⟩
        | true =>
          cases f1 : (l.kw == 0) with
          | false =>
            go_wp2_with fail
            go_meet
            exact ⟨by unfold Hid; rw [HK.out, f0, f1]; rfl, rfl⟩
          | true =>
            cases f2 : (l.stride == 0) with
            | false =>
              go_wp2_with fail
              go_meet
              exact ⟨by unfold Hid; rw [HK.out, f0, f1, f2]; rfl, rfl⟩
            | true =>
              cases f3 : (l.pad == 0) with
              | false =>
                go_wp2_with fail
                go_meet
                exact ⟨by unfold Hid; rw [HK.out, f0, f1, f2, f3]; rfl, rfl⟩
              | true =>
                go_wp2_with fail
                go_meet
                exact ⟨by unfold Hid; rw [HK.out, f0, f1, f2, f3]; rfl, rfl⟩
      case rest =>
        obtain ⟨hs, hwx⟩ := hcut
        have e1 := hs.out
        have e2 := hwx.out
        clear hs hwx
        subst e1
        subst e2
        go_upto_region 4 with fail
        obtain ⟨K, hK⟩ : ∃ K, kerB l = K := ⟨_, rfl⟩
        have HKe := Lib.hid hK
        rw [hK] at HRd ⊢
        clear hK
        generalize noneL l = NB at *
        generalize flatB l = FB at *
        have CA := Lib.hid (r12Canonical c1 (R1.out.below HB.out) HLe.out.wts)
        cases h1 : l.weights.all validR with
        | false =>
          have HF : Hid (RR = false) := by unfold Hid; rw [← HRd.out, h1]; rfl
          rw [h1] at CA
          clear h1
          go_wp2_with fail
          refine CA.out.mono ?_
          rintro e w1 ⟨rfl, hb1⟩
          have HB1 := Lib.hid (HB.out.trans (hb1.mono HB.out.size))
          clear hb1 x0 x1 x2 x3 x4 x5 x6 x7 x8
          go_wp2
          go_ret
          exact ⟨ret_bool HF.out.symm, HB1.out⟩
        | true =>
          rw [h1] at CA
          have HE1 := Lib.hid h1
          clear h1
          go_wp2_with fail
          refine CA.out.mono ?_
          rintro e w1 ⟨rfl, hb1⟩
          have HB1 := Lib.hid (HB.out.trans (hb1.mono HB.out.size))
          have HX1 := Lib.hid (HX.out.below hb1)
          clear hb1 x0 x1 x2 x3 x4 x5 x6 x7 x8 xlt CA
          obtain ⟨x0, x1, x2, x3, x4, x5, x6, x7, x8, xlt⟩ := HX1.out
          have CB := Lib.hid (r12Canonical c2 (R2.out.below HB1.out) HLe.out.bias)
          cases h2 : l.bias.all validR with
          | false =>
            have HF : Hid (RR = false) := by unfold Hid; rw [← HRd.out, HE1.out, h2]; rfl
            rw [h2] at CB
            clear h2
            go_wp2_with fail
            refine CB.out.mono ?_
            rintro e w2 ⟨rfl, hb2⟩
            have HB2 := Lib.hid (HB1.out.trans (hb2.mono HB1.out.size))
            clear hb2 x0 x1 x2 x3 x4 x5 x6 x7 x8
            go_wp2
            go_ret
            exact ⟨ret_bool HF.out.symm, HB2.out⟩
          | true =>
            rw [h2] at CB
            have HE2 := Lib.hid h2
            clear h2
            go_wp2_with fail
            refine CB.out.mono ?_
            rintro e w2 ⟨rfl, hb2⟩
            have HB2 := Lib.hid (HB1.out.trans (hb2.mono HB1.out.size))
            have HX2 := Lib.hid (HX1.out.below hb2)
            clear hb2 x0 x1 x2 x3 x4 x5 x6 x7 x8 xlt CB
            obtain ⟨x0, x1, x2, x3, x4, x5, x6, x7, x8, xlt⟩ := HX2.out
            have hk := HKD.out
            have HRk : Hid ((K && ((l.frm == 0) && ((l.pad == 0) && ((l.out == 0) && NB)))) = RR) := by
              have h := HRd.out
              rw [HE1.out, HE2.out, Bool.true_and, Bool.true_and, if_neg (by omega), if_neg (by omega), if_pos (by omega)] at h
              exact h
            have k1 : (l.kind == 1) = false := by rw [beq_eq_false_iff_ne]; omega
            have k2 : (l.kind == 2) = false := by rw [beq_eq_false_iff_ne]; omega
            have k3 : (l.kind == 3) = true := by rw [beq_iff_eq]; omega
            clear hk
            cases K with
            | false =>
              have HR : Hid (RR = false) := by unfold Hid; rw [← HRk.out]; rfl
              go_wp2
              go_ret
              exact ⟨ret_bool HR.out.symm, HB2.out⟩
            | true =>
              cases g1 : (l.frm == 0) with
              | false =>
                have HR : Hid (RR = false) := by unfold Hid; rw [← HRk.out, g1]; rfl
                go_wp2
                go_ret
                exact ⟨ret_bool HR.out.symm, HB2.out⟩
              | true =>
                cases g2 : (l.pad == 0) with
                | false =>
                  have HR : Hid (RR = false) := by unfold Hid; rw [← HRk.out, g1, g2]; rfl
                  go_wp2
                  go_ret
                  exact ⟨ret_bool HR.out.symm, HB2.out⟩
                | true =>
                  cases g3 : (l.out == 0) with
                  | false =>
                    have HR : Hid (RR = false) := by unfold Hid; rw [← HRk.out, g1, g2, g3]; rfl
                    go_wp2
                    go_ret
                    exact ⟨ret_bool HR.out.symm, HB2.out⟩
                  | true =>
                    cases NB with
                    | false =>
                      have HR : Hid (RR = false) := by unfold Hid; rw [← HRk.out, g1, g2, g3]; rfl
                      go_wp2
                      go_ret
                      exact ⟨ret_bool HR.out.symm, HB2.out⟩
                    | true =>
                      have HR : Hid (RR = true) := by unfold Hid; rw [← HRk.out, g1, g2, g3]; rfl
                      go_wp2
                      go_ret
                      exact ⟨ret_bool HR.out.symm, HB2.out⟩

set_option maxRecDepth 100000 in
set_option maxHeartbeats 12800000 in
theorem r12Layer4 {w : World} {v : Value} {l : LayL} (hv : LayV w v l) (hr : LayRange l) (hle : LayLe l) (i : Int) (hi : 0 ≤ i) (hi2 : i ≤ 1000000) (hk : l.kind = 4) :
    Calls Try.prog 39 #[v, .int .i64 i] w fun e w' => e = .returned (.bool (layOK l i)) ∧ Below w.heap.size w w' := by
  rw [← refLay_eq]
  obtain ⟨a1, a2, c1, c2, rfl, r1, r2⟩ := hv.ex
  have q1 := r1.len
  have q2 := r2.len
  have R1 := Lib.hid r1
  have R2 := Lib.hid r2
  have HLe := Lib.hid hle
  generalize hRr : refLay l i = RR
  unfold refLay at hRr
  have HRd := Lib.hid hRr
  have HKD := Lib.hid hk
  clear hRr hv r1 r2 hr hle hk
  go_enter Try.func39, Try.ntmps39
  go_upto_region 1 with fail
  have hb0 : Below w.heap.size w (w.alloc (.cells #[.int .i64 l.kind, .int .i64 l.frm, .int .i64 l.out, .int .i64 l.kh, .int .i64 l.kw, .int .i64 l.stride, .int .i64 l.pad, .slice a1 l.weights.length c1, .slice a2 l.bias.length c2] 26)) := (Below.refl _ _).alloc (Nat.le_refl _) _
  have hx := Box9.alloc w (.int .i64 l.kind) (.int .i64 l.frm) (.int .i64 l.out) (.int .i64 l.kh) (.int .i64 l.kw) (.int .i64 l.stride) (.int .i64 l.pad) (.slice a1 l.weights.length c1) (.slice a2 l.bias.length c2) 26
  generalize w.alloc (.cells #[.int .i64 l.kind, .int .i64 l.frm, .int .i64 l.out, .int .i64 l.kh, .int .i64 l.kw, .int .i64 l.stride, .int .i64 l.pad, .slice a1 l.weights.length c1, .slice a2 l.bias.length c2] 26) = W at *
  have HB := Lib.hid hb0
  have HX := Lib.hid hx
  clear hx hb0
  obtain ⟨x0, x1, x2, x3, x4, x5, x6, x7, x8, xlt⟩ := HX.out
  have C1 : Hid (∀ W, Calls Try.prog 62 #[.int .i64 l.kh, .int .i64 1, .int .i64 64] W fun e w' => e = .returned (.bool (sidB l.kh)) ∧ W = w') := fun W => by rw [← wthn_sid]; exact r12Within _ _ _ W
  have C2 : Hid (∀ W, Calls Try.prog 62 #[.int .i64 l.kw, .int .i64 1, .int .i64 64] W fun e w' => e = .returned (.bool (sidB l.kw)) ∧ W = w') := fun W => by rw [← wthn_sid]; exact r12Within _ _ _ W
  have C3 : Hid (∀ W, Calls Try.prog 62 #[.int .i64 l.stride, .int .i64 1, .int .i64 64] W fun e w' => e = .returned (.bool (sidB l.stride)) ∧ W = w') := fun W => by rw [← wthn_sid]; exact r12Within _ _ _ W
  go_cut [5] (fun s5 wx => Hid (.bool (kerB l) = s5) ∧ Hid (W = wx))
  case first =>
    have HK : Hid (kerB l = (sidB l.kh && (sidB l.kw && sidB l.stride))) := rfl
    cases e1 : sidB l.kh with
    | false =>
      rw [e1] at C1 HK
      clear e1
      go_wp2_with fail
      refine (C1.out _).mono ?_
      rintro e w' ⟨rfl, rfl⟩
      go_wp2_with fail
      go_meet
      exact ⟨by unfold Hid; rw [HK.out]; rfl, rfl⟩
    | true =>
      rw [e1] at C1 HK
      clear e1
      cases e2 : sidB l.kw with
      | false =>
        rw [e2] at C2 HK
        clear e2
        go_wp2_with fail
        refine (C1.out _).mono ?_
        rintro e w' ⟨rfl, rfl⟩
        go_wp2_with fail
        refine (C2.out _).mono ?_
        rintro e w' ⟨rfl, rfl⟩
        go_wp2_with fail
        go_meet
        exact ⟨by unfold Hid; rw [HK.out]; rfl, rfl⟩
      | true =>
        rw [e2] at C2 HK
        clear e2
        generalize sidB l.stride = z at *
        go_wp2_with fail
        refine (C1.out _).mono ?_
        rintro e w' ⟨rfl, rfl⟩
        go_wp2_with fail
        refine (C2.out _).mono ?_
        rintro e w' ⟨rfl, rfl⟩
        go_wp2_with fail
        refine (C3.out _).mono ?_
        rintro e w' ⟨rfl, rfl⟩
        go_wp2_with fail
        go_meet
        exact ⟨by unfold Hid; rw [HK.out]; rfl, rfl⟩

  case rest =>
    obtain ⟨hs, hwx⟩ := hcut
    have e1 := hs.out
    have e2 := hwx.out
    clear hs hwx
    subst e1
    subst e2
    go_upto_region 2 with fail
    go_cut [6] (fun s6 wx => Hid (.bool (noneL l) = s6) ∧ Hid (W = wx))
    case first =>
      have HK : Hid (noneL l = (((l.weights.length : Int) == 0) && ((l.bias.length : Int) == 0))) := rfl
      cases f0 : ((l.weights.length : Int) == 0) with
      | false =>
        go_wp2_with fail
        go_meet
        exact ⟨by unfold Hid; rw [HK.out, f0]; rfl, rfl⟩
      | true =>
        cases f1 : ((l.bias.length : Int) == 0) with
        | false =>
          go_wp2_with fail
          go_meet
          exact ⟨by unfold Hid; rw [HK.out, f0, f1]; rfl, rfl⟩
        | true =>
          go_wp2_with fail
          go_meet
          exact ⟨by unfold Hid; rw [HK.out, f0, f1]; rfl, rfl⟩
    case rest =>
      obtain ⟨hs, hwx⟩ := hcut
      have e1 := hs.out
      have e2 := hwx.out
      clear hs hwx
      subst e1
      subst e2
      go_upto_region 3 with fail
      go_cut [7] (fun s7 wx => Hid (.bool (flatB l) = s7) ∧ Hid (W = wx))
      case first =>
        have HK : Hid (flatB l = ((l.kh == 0) && ((l.kw == 0) && ((l.stride == 0) && (l.pad == 0))))) := rfl
        cases f0 : (l.kh == 0) with
        | false =>
          go_wp2_with fail
          go_meet
          exact ⟨by unfold Hid; rw [HK.out, f0]; rfl, rfl⟩
        | true =>
          cases f1 : (l.kw == 0) with
          | false =>
            go_wp2_with fail
            go_meet
            exact ⟨by unfold Hid; rw [HK.out, f0, f1]; rfl, rfl⟩
          | true =>
            cases f2 : (l.stride == 0) with
            | false =>
              go_wp2_with fail
              go_meet
              exact ⟨by unfold Hid; rw [HK.out, f0, f1, f2]; rfl, rfl⟩
            | true =>
              cases f3 : (l.pad == 0) with
              | false =>
                go_wp2_with fail
                go_meet
                exact ⟨by unfold Hid; rw [HK.out, f0, f1, f2, f3]; rfl, rfl⟩
              | true =>
                go_wp2_with fail
                go_meet
                exact ⟨by unfold Hid; rw [HK.out, f0, f1, f2, f3]; rfl, rfl⟩
      case rest =>
        obtain ⟨hs, hwx⟩ := hcut
        have e1 := hs.out
        have e2 := hwx.out
        clear hs hwx
        subst e1
        subst e2
        go_upto_region 4 with fail
        obtain ⟨K, hK⟩ : ∃ K, kerB l = K := ⟨_, rfl⟩
        have HKe := Lib.hid hK
        rw [hK] at HRd ⊢
        clear hK
        generalize noneL l = NB at *
        generalize flatB l = FB at *
        have CA := Lib.hid (r12Canonical c1 (R1.out.below HB.out) HLe.out.wts)
        cases h1 : l.weights.all validR with
        | false =>
          have HF : Hid (RR = false) := by unfold Hid; rw [← HRd.out, h1]; rfl
          rw [h1] at CA
          clear h1
          go_wp2_with fail
          refine CA.out.mono ?_
          rintro e w1 ⟨rfl, hb1⟩
          have HB1 := Lib.hid (HB.out.trans (hb1.mono HB.out.size))
          clear hb1 x0 x1 x2 x3 x4 x5 x6 x7 x8
          go_wp2
          go_ret
          exact ⟨ret_bool HF.out.symm, HB1.out⟩
        | true =>
          rw [h1] at CA
          have HE1 := Lib.hid h1
          clear h1
          go_wp2_with fail
          refine CA.out.mono ?_
          rintro e w1 ⟨rfl, hb1⟩
          have HB1 := Lib.hid (HB.out.trans (hb1.mono HB.out.size))
          have HX1 := Lib.hid (HX.out.below hb1)
          clear hb1 x0 x1 x2 x3 x4 x5 x6 x7 x8 xlt CA
          obtain ⟨x0, x1, x2, x3, x4, x5, x6, x7, x8, xlt⟩ := HX1.out
          have CB := Lib.hid (r12Canonical c2 (R2.out.below HB1.out) HLe.out.bias)
          cases h2 : l.bias.all validR with
          | false =>
            have HF : Hid (RR = false) := by unfold Hid; rw [← HRd.out, HE1.out, h2]; rfl
            rw [h2] at CB
            clear h2
            go_wp2_with fail
            refine CB.out.mono ?_
            rintro e w2 ⟨rfl, hb2⟩
            have HB2 := Lib.hid (HB1.out.trans (hb2.mono HB1.out.size))
            clear hb2 x0 x1 x2 x3 x4 x5 x6 x7 x8
            go_wp2
            go_ret
            exact ⟨ret_bool HF.out.symm, HB2.out⟩
          | true =>
            rw [h2] at CB
            have HE2 := Lib.hid h2
            clear h2
            go_wp2_with fail
            refine CB.out.mono ?_
            rintro e w2 ⟨rfl, hb2⟩
            have HB2 := Lib.hid (HB1.out.trans (hb2.mono HB1.out.size))
            have HX2 := Lib.hid (HX1.out.below hb2)
            clear hb2 x0 x1 x2 x3 x4 x5 x6 x7 x8 xlt CB
            obtain ⟨x0, x1, x2, x3, x4, x5, x6, x7, x8, xlt⟩ := HX2.out
            have hk := HKD.out
            have HRk : Hid ((K && ((l.frm == 0) && ((l.pad == 0) && ((l.out == 0) && NB)))) = RR) := by
              have h := HRd.out
              rw [HE1.out, HE2.out, Bool.true_and, Bool.true_and, if_neg (by omega), if_neg (by omega), if_pos (by omega)] at h
              exact h
            have k1 : (l.kind == 1) = false := by rw [beq_eq_false_iff_ne]; omega
            have k2 : (l.kind == 2) = false := by rw [beq_eq_false_iff_ne]; omega
            have k3 : (l.kind == 3) = false := by rw [beq_eq_false_iff_ne]; omega
            have k4 : (l.kind == 4) = true := by rw [beq_iff_eq]; omega
            clear hk
            cases K with
            | false =>
              have HR : Hid (RR = false) := by unfold Hid; rw [← HRk.out]; rfl
              go_wp2
              go_ret
              exact ⟨ret_bool HR.out.symm, HB2.out⟩
            | true =>
              cases g1 : (l.frm == 0) with
              | false =>
                have HR : Hid (RR = false) := by unfold Hid; rw [← HRk.out, g1]; rfl
                go_wp2
                go_ret
                exact ⟨ret_bool HR.out.symm, HB2.out⟩
              | true =>
                cases g2 : (l.pad == 0) with
                | false =>
                  have HR : Hid (RR = false) := by unfold Hid; rw [← HRk.out, g1, g2]; rfl
                  go_wp2
                  go_ret
                  exact ⟨ret_bool HR.out.symm, HB2.out⟩
                | true =>
                  cases g3 : (l.out == 0) with
                  | false =>
                    have HR : Hid (RR = false) := by unfold Hid; rw [← HRk.out, g1, g2, g3]; rfl
                    go_wp2
                    go_ret
                    exact ⟨ret_bool HR.out.symm, HB2.out⟩
                  | true =>
                    cases NB with
                    | false =>
                      have HR : Hid (RR = false) := by unfold Hid; rw [← HRk.out, g1, g2, g3]; rfl
                      go_wp2
                      go_ret
                      exact ⟨ret_bool HR.out.symm, HB2.out⟩
                    | true =>
                      have HR : Hid (RR = true) := by unfold Hid; rw [← HRk.out, g1, g2, g3]; rfl
                      go_wp2
                      go_ret
                      exact ⟨ret_bool HR.out.symm, HB2.out⟩

theorem r12Layer {w : World} {v : Value} {l : LayL} (hv : LayV w v l) (hr : LayRange l) (hle : LayLe l) (i : Int) (hi : 0 ≤ i) (hi2 : i ≤ 1000000) :
    Calls Try.prog 39 #[v, .int .i64 i] w fun e w' => e = .returned (.bool (layOK l i)) ∧ Below w.heap.size w w' := by
  have hkind : l.kind = 1 ∨ l.kind = 2 ∨ l.kind = 3 ∨ l.kind = 4 ∨ l.kind = 5 ∨ l.kind = 6 ∨ l.kind = 7 ∨ ¬ (1 ≤ l.kind ∧ l.kind ≤ 7) := by omega
  rcases hkind with hk | hk | hk | hk | hk | hk | hk | hk
  · exact r12Layer1 hv hr hle i hi hi2 hk
  · exact r12Layer2 hv hr hle i hi hi2 hk
  · exact r12Layer3 hv hr hle i hi hi2 hk
  · exact r12Layer4 hv hr hle i hi hi2 hk
  · exact r12Layer5 hv hr hle i hi hi2 hk
  · exact r12Layer6 hv hr hle i hi hi2 hk
  · exact r12Layer7 hv hr hle i hi hi2 hk
  · exact r12Layer0 hv hr hle i hi hi2 hk

end Go.Proofs.Ythlmgejikbmmaaa

/-
  The reference of layer 13: result, Same. By contract.
-/
namespace Go.Proofs.Ythlmgejikbmmaaa
open Go.RowKit

theorem Ints.src1' {w : World} {F : Nat → Prop} {a : Option Addr} {l : List Int} (h : Ints w F a l) : SrcOK w a l.length 1 (l.map (Value.int .i64)) := by
  refine ⟨by simp, ?_, fun hp => ?_⟩
  · intro u hu
    obtain ⟨x, _, rfl⟩ := List.mem_map.1 hu
    rfl
  · rcases h.row with rfl | ⟨b, off, rfl, _, hb, hc⟩
    · simp at hp
    · refine ⟨b, off, rfl, hb, fun j u hu => ?_⟩
      rw [List.getElem?_map] at hu
      obtain ⟨d, hd, rfl⟩ := Option.map_eq_some_iff.1 hu
      exact hc j d hd
theorem Try.infoIntS : (Try.prog.info? 3).map (fun i => (i.zero, i.size, i.bytes)) = some (some (.int .i64 0), 1, 8) := by kernel_rfl
theorem empty_new (w : World) (T : Nat) : (w.alloc (.cells #[] T)).heap[w.heap.size]? = some (.cells #[] T (0, 0)) := by
  show (w.heap.push _)[w.heap.size]? = _
  rw [Array.getElem?_push, if_pos rfl]
/-- A row of integers of the call's own reads as the integers, in new memory. -/
theorem own_ints {w : World} {base E n : Nat} {v : Value} {l : List Int} (h : w.ownsRow base E 1 v n (l.map (Value.int .i64))) (hn : n = l.length) (hw : ∀ x ∈ l, I64 x) (hl : l.length ≤ 9223372036854775807) :
    ∃ a c, v = .slice a l.length c ∧ Ints w (fun b => base ≤ b) a l ∧ l.length ≤ c := by
  subst hn
  rcases h.2 with ⟨rfl, h0⟩ | ⟨g, cap, cur, rfl, hb, hg, hnc, _⟩
  · rw [h0]
    have : l = [] := List.eq_nil_of_length_eq_zero h0
    subst this
    exact ⟨none, 0, rfl, Ints.nil _ _ _, Nat.le_refl _⟩
  · refine ⟨_, cap, rfl, ⟨hw, hl, .inr ⟨g, 0, rfl, hb, (Array.getElem?_eq_some_iff.1 hg).1, fun j d hj => ?_⟩⟩, hnc⟩
    have := h.cells (g := g) rfl j (.int .i64 d) (by rw [List.getElem?_map, hj]; rfl)
    simpa [Addr.add_lit] using this

/-- What 'result' says of a list. -/
def resL (s : List Int) : List Int × Int := if validL s then (s, 0) else ([], 7)
set_option maxRecDepth 100000 in
set_option maxHeartbeats 1600000 in
theorem rResult {w : World} {F : Nat → Prop} {a : Option Addr} {s : List Int} (c : Nat) (h : Ints w F a s) :
    Calls Try.prog 37 #[.slice a s.length c] w (OutPost w (resL s)) := by
  have hl := h.len
  have H := Lib.hid h
  have HV := Lib.hid (r11Valid c h)
  generalize hR : resL s = R
  unfold resL at hR
  clear h
  cases hv : validL s with
  | false =>
    rw [hv] at hR HV
    have HF : Hid (R = ([], 7)) := hR.symm
    clear hR hv
    go_enter Try.func37, Try.ntmps37
    go_wp2_with fail
    refine HV.out.mono ?_
    rintro e w' ⟨rfl, rfl⟩
    go_wp2
    go_ret2
    exact outPost_err HF.out (Below.refl _ _)
  | true =>
    have hlen := (validL_len hv).2
    rw [hv] at hR HV
    have HF : Hid (R = (s, 0)) := hR.symm
    clear hR hv
    go_enter Try.func37, Try.ntmps37
    go_wp2_with fail
    refine HV.out.mono ?_
    rintro e w' ⟨rfl, rfl⟩
    go_wp2_with (at_builtin; refine wpList_append_src rfl (.tmp 7) (.tmp 8) 22 22 rfl w.heap.size 3 (.int .i64 0) 1 8 Try.underlying22 Try.underlying22 Try.infoIntS rfl (by omega) (.slice (some ⟨w.heap.size, 0, none⟩) 0 0) 0 [] rfl (own_empty (empty_new _ _) (Nat.le_refl _)) a s.length c _ rfl (H.out.below ((Below.refl w.heap.size w).alloc (Nat.le_refl _) (.cells #[] 3))).src1' (by omega) (by unfold maxLen; omega) (by simp) ?_; intro v' w' hown hg hn2; have HOwn := Lib.hid hown; have HG := Lib.hid hg; clear hown hg hn2)
    have hown := HOwn.out
    rw [List.nil_append] at hown
    obtain ⟨a', c', hv', hI, hc⟩ := own_ints hown (by omega) H.out.wf hl
    subst hv'
    have HI := Lib.hid hI
    have HC := Lib.hid hc
    have HB := Lib.hid (((Below.refl w.heap.size w).alloc (Nat.le_refl _) (.cells #[] 3)).grown HG.out (by simp) (fun k hk => by simp [Value.ownBlock] at hk; omega))
    clear hown hI hc
    go_ret2
    rw [HF.out]
    exact ⟨⟨a', c', rfl, HI.out, HC.out⟩, HB.out⟩

def sameS (A B : List (List Int)) : Bool := decide (A = B)
set_option maxRecDepth 100000 in
set_option maxHeartbeats 1600000 in
theorem rSame {w : World} {F G : Nat → Prop} {a b : Option Addr} {A B : List (List Int)} (c d : Nat) (h : Intss w F a A) (g : Intss w G b B) :
    Calls Try.prog 21 #[.slice a A.length c, .slice b B.length d] w fun e w' => e = .returned (.bool (sameS A B)) ∧ Below w.heap.size w w' := by
  have hl := h.len
  have hm := g.len
  have HA := Lib.hid h
  have HG := Lib.hid g
  clear h g
  by_cases he : A.length = B.length
  · have HE := Lib.hid he
    have hlb : decide (¬ (A.length : Int) = (B.length : Int)) = false := by simp; omega
    have hlc : ((A.length : Int) == (B.length : Int)) = true := by simp; omega
    have hld : ((A.length : Int) != (B.length : Int)) = false := by rw [he]; simp
    have hge1 : A.length ≤ B.length := by omega
    have hge2 : B.length ≤ A.length := by omega
    go_enter Try.func21, Try.ntmps21
    clear he
    go_wp2
    go_loopw [5] (fun i wr => ∃ j : Nat, j ≤ A.length ∧ i = .int .i64 (j : Int) ∧ Hid (A.take j = B.take j) ∧ Hid (Below w.heap.size w wr)) (fun i _ => A.length - (intOf i).toNat)
    case atStart => exact ⟨0, Nat.zero_le _, rfl, by simp [Hid], Below.refl _ _⟩
    case round =>
      obtain ⟨j, hj, rfl, HT, HB⟩ := hrel
      by_cases hlt : j < A.length
      · have hltm : j < B.length := by omega
        obtain ⟨b1, o1, x, ax, cx, rfl, p1, hx, _, hIx, hb1, _⟩ := (HA.out.below HB.out).pick hlt
        obtain ⟨b2, o2, y, ay, cy, rfl, p2, hy, _, hIy, hb2, _⟩ := (HG.out.below HB.out).pick hltm
        have HXx := Lib.hid hx
        have HYy := Lib.hid hy
        have TA := Lib.hid (take_succ_at hx)
        have TB := Lib.hid (take_succ_at hy)
        have f1 := ext_cell p1 hb1
        have f2 := ext_cell p2 hb2
        have HC : Hid (∀ e, Calls Try.prog 17 #[.slice ax x.length cx, .slice ay y.length cy] (ext wr e) fun e1 w' => e1 = .returned (.bool (sameL x y)) ∧ Below (ext wr e).heap.size (ext wr e) w') := fun e =>
          (rInts cx cy (hIx.below (ext_below wr e)) (hIy.below (ext_below wr e))).mono fun e1 w' ⟨h1, n, h2⟩ => ⟨h1, h2 ▸ Below.drewN_refl _ _⟩
        have px := hIx.len
        have py := hIy.len
        clear hx hy hIx hIy p1 p2
        by_cases hxy : x = y
        · have hs : sameL x y = true := by unfold sameL; exact decide_eq_true hxy
          rw [hs] at HC
          have HXY := Lib.hid hxy
          clear hxy hs
          go_wp2
          refine wp_region_quiet_ext (by kernel_rfl) (by kernel_rfl) ?_
          repeat (go_big_quiet_step (first | (go_at_call 17; exact Calls.ext_of (HC.out _))))
          refine wpQuiet_nil ?_
          intro _ hw'
          obtain ⟨nq, hw''⟩ := hw'
          subst hw''
          have HBN := Lib.hid (HB.out.trans ((ext_below wr nq).mono HB.out.size))
          generalize ext wr nq = w5 at *
          go_wp2
          go_roundw
          case rel => exact ⟨j + 1, hlt, by go_num, by unfold Hid; rw [TA.out, TB.out, HT.out, HXY.out], HBN.out⟩
          case measure => simp [intOf]; omega
        · have hs : sameL x y = false := by unfold sameL; exact decide_eq_false hxy
          rw [hs] at HC
          have hne : Hid (sameS A B = false) := by
            unfold Hid sameS
            rw [decide_eq_false_iff_not]
            rintro rfl
            have h1 := HXx.out.symm.trans HYy.out
            cases h1
            exact hxy rfl
          clear hxy hs
          go_wp2
          refine wp_region_quiet_ext (by kernel_rfl) (by kernel_rfl) ?_
          repeat (go_big_quiet_step (first | (go_at_call 17; exact Calls.ext_of (HC.out _))))
          refine wpQuiet_nil ?_
          intro _ hw'
          obtain ⟨nq, hw''⟩ := hw'
          subst hw''
          have HBN := Lib.hid (HB.out.trans ((ext_below wr nq).mono HB.out.size))
          generalize ext wr nq = w5 at *
          go_wp2
          go_ret
          exact ⟨ret_bool hne.out.symm, HBN.out⟩
      · obtain rfl : j = A.length := by omega
        have he2 : Hid (sameS A B = true) := by
          have h1 := HT.out
          rw [List.take_length, HE.out, List.take_length] at h1
          unfold Hid sameS; simp [h1]
        go_wp2
        go_ret
        exact ⟨ret_bool he2.out.symm, HB.out⟩
  · have hne : Hid (sameS A B = false) := by
      unfold Hid sameS
      rw [decide_eq_false_iff_not]
      rintro rfl
      exact he rfl
    go_enter Try.func21, Try.ntmps21
    go_wp2
    go_ret
    exact ⟨ret_bool hne.out.symm, Below.refl _ _⟩

end Go.Proofs.Ythlmgejikbmmaaa

/-
  The reference of layer 12: Valid; of layer 13: valid. By contract.
-/
namespace Go.Proofs.Ythlmgejikbmmaaa
open Go.RowKit

set_option maxRecDepth 100000 in
set_option maxHeartbeats 3200000 in
theorem r12Valid {w : World} {m : ModL} {a1 a2 : Option Addr} (c1 c2 : Nat) (h1 : Ints w Any a1 m.input) (h2 : LaysAt w a2 m.layers) (hr : ∀ l ∈ m.layers, LayRange l) (hs : ∀ l ∈ m.layers, LayLe l) :
    Calls Try.prog 22 #[.agg #[.slice a1 m.input.length c1, .slice a2 m.layers.length c2]] w fun e w' => e = .returned (.bool (validM m)) ∧ Below w.heap.size w w' := by
  have q1 := h1.len
  have q2 := h2.len
  have H2 := Lib.hid h2
  have HRg := Lib.hid hr
  have HSh := Lib.hid hs
  have hbA : Below w.heap.size w (w.alloc (.cells #[.slice a1 m.input.length c1, .slice a2 m.layers.length c2] 36)) := (Below.refl _ _).alloc (Nat.le_refl _) _
  have HV := Lib.hid (r11Valid c1 (h1.below hbA))
  generalize hR : validM m = R
  have HR := Lib.hid hR
  unfold validM at hR
  clear h1 h2 hr hs
  cases e1 : validL m.input with
  | false =>
    rw [e1] at HV hR
    have HF : Hid (R = false) := hR.symm
    clear hR e1
    go_enter Try.func22, Try.ntmps22
    go_wp2_with fail
    refine HV.out.mono ?_
    rintro e w' ⟨rfl, rfl⟩
    go_wp2
    go_ret
    exact ⟨ret_bool HF.out.symm, hbA⟩
  | true =>
    rw [e1] at HV hR
    clear e1
    by_cases e2 : m.layers.length ≤ 64
    · rw [decide_eq_true e2] at hR
      have HL : Hid (laysFrom (m.layers.drop 0) ((0 : Nat) : Int) = R) := hR
      clear hR
      go_enter Try.func22, Try.ntmps22
      go_wp2_with fail
      refine HV.out.mono ?_
      rintro e w' ⟨rfl, rfl⟩
      have hx := Box2.alloc w (.slice a1 m.input.length c1) (.slice a2 m.layers.length c2) 36
      have HB := Lib.hid hbA
      generalize w.alloc (.cells #[.slice a1 m.input.length c1, .slice a2 m.layers.length c2] 36) = W at *
      have HX := Lib.hid hx
      obtain ⟨x0, x1, xf, xlt⟩ := hx
      clear hbA
      go_wp2
      clear x0 x1 xf xlt
      go_loopw [3] (fun i wr => ∃ j : Nat, j ≤ m.layers.length ∧ i = .int .i64 (j : Int) ∧ Hid (laysFrom (m.layers.drop j) (j : Int) = R) ∧ Hid (Below W.heap.size W wr)) (fun i _ => m.layers.length - (intOf i).toNat)
      case atStart => exact ⟨0, Nat.zero_le _, rfl, HL.out, Below.refl _ _⟩
      case round =>
        obtain ⟨j, hj, rfl, HS, HW⟩ := hrel
        obtain ⟨x0, x1, xf, xlt⟩ := HX.out.below HW.out
        by_cases hlt : j < m.layers.length
        · obtain ⟨bl, ol, l, rfl, hbl, hl, b1, b2, d1, d2, ⟨l0, l1, l2, l3, l4, l5, l6, l7, l8⟩, r1, r2⟩ := (H2.out.below (HB.out.trans (HW.out.mono HB.out.size))).pick hlt
          have hmem := List.mem_of_getElem? hl
          have hdrop : m.layers.drop j = l :: m.layers.drop (j + 1) := by
            rw [List.drop_eq_getElem_cons hlt]
            congr 1
            rw [List.getElem?_eq_getElem hlt] at hl
            exact Option.some.inj hl
          have HStep : Hid ((layOK l (j : Int) && laysFrom (m.layers.drop (j + 1)) ((j + 1 : Nat) : Int)) = R) := by
            have := HS.out
            rw [hdrop] at this
            exact this
          have HC := Lib.hid (r12Layer (w := wr) (v := .agg #[.int .i64 l.kind, .int .i64 l.frm, .int .i64 l.out, .int .i64 l.kh, .int .i64 l.kw, .int .i64 l.stride, .int .i64 l.pad, .slice b1 l.weights.length d1, .slice b2 l.bias.length d2]) ⟨b1, b2, d1, d2, rfl, r1, r2⟩ (HRg.out l hmem) (HSh.out l hmem) (j : Int) (by omega) (by omega))
          have p1 := r1.len
          have p2 := r2.len
          clear hdrop hl hmem r1 r2 HS
          go_wp2_with fail
          refine HC.out.mono ?_
          rintro e w2 ⟨rfl, hb2⟩
          have HW2 := Lib.hid (HW.out.trans (hb2.mono HW.out.size))
          clear hb2 x0 x1 xf xlt l0 l1 l2 l3 l4 l5 l6 l7 l8 HC
          cases hc : layOK l (j : Int) with
          | false =>
            have HF : Hid (R = false) := by unfold Hid; rw [← HStep.out, hc]; rfl
            clear hc
            go_wp2
            go_ret
            exact ⟨ret_bool HF.out.symm, HB.out.trans (HW2.out.mono HB.out.size)⟩
          | true =>
            have HS2 : Hid (laysFrom (m.layers.drop (j + 1)) ((j + 1 : Nat) : Int) = R) := by have := HStep.out; rw [hc] at this; exact this
            clear hc
            go_wp2
            go_roundw
            case rel => exact ⟨j + 1, hlt, by go_num, HS2.out, HW2.out⟩
            case measure => simp [intOf]; omega
        · obtain rfl : j = m.layers.length := by omega
          have HE : Hid (R = true) := by have := HS.out; rw [List.drop_length] at this; exact this.symm
          go_wp2
          go_ret
          exact ⟨ret_bool HE.out.symm, HB.out.trans (HW.out.mono HB.out.size)⟩
    · rw [decide_eq_false e2] at hR
      have HF : Hid (R = false) := by unfold Hid; rw [← hR]; rfl
      clear hR
      go_enter Try.func22, Try.ntmps22
      go_wp2_with fail
      refine HV.out.mono ?_
      rintro e w' ⟨rfl, rfl⟩
      go_wp2
      go_ret
      exact ⟨ret_bool HF.out.symm, hbA⟩

set_option maxRecDepth 100000 in
set_option maxHeartbeats 3200000 in
theorem r13valid {w : World} {u : Value} {l : LayL} (hu : LayV w u l) (hr : LayRange l) (hle : LayLe l) (n : Nat) (hn : n ≤ 1000) :
    Calls Try.prog 36 #[u, .int .i64 (n : Int)] w fun e w' => e = .returned (.bool (decide (n + 1 ≤ 64) && layOK l n)) ∧ Below w.heap.size w w' := by
  obtain ⟨b1, b2, d1, d2, rfl, r1, r2⟩ := hu.ex
  have q3 := r1.len
  have q4 := r2.len
  have R1 := Lib.hid r1
  have R2 := Lib.hid r2
  have HRg := Lib.hid hr
  have HLe := Lib.hid hle
  generalize hR : (decide (n + 1 ≤ 64) && layOK l n) = RR
  have HR := Lib.hid hR
  clear hu r1 r2 hr hle hR
  go_enter Try.func36, Try.ntmps36
  go_upto_region 1 with fail
  have hb0 : Below w.heap.size w (w.alloc (.cells #[.int .i64 l.kind, .int .i64 l.frm, .int .i64 l.out, .int .i64 l.kh, .int .i64 l.kw, .int .i64 l.stride, .int .i64 l.pad, .slice b1 l.weights.length d1, .slice b2 l.bias.length d2] 26)) := (Below.refl _ _).alloc (Nat.le_refl _) _
  have hx := Box9.alloc w (.int .i64 l.kind) (.int .i64 l.frm) (.int .i64 l.out) (.int .i64 l.kh) (.int .i64 l.kw) (.int .i64 l.stride) (.int .i64 l.pad) (.slice b1 l.weights.length d1) (.slice b2 l.bias.length d2) 26
  generalize w.alloc (.cells #[.int .i64 l.kind, .int .i64 l.frm, .int .i64 l.out, .int .i64 l.kh, .int .i64 l.kw, .int .i64 l.stride, .int .i64 l.pad, .slice b1 l.weights.length d1, .slice b2 l.bias.length d2] 26) = W0 at *
  have HB0 := Lib.hid hb0
  have HX0 := Lib.hid hx
  clear hb0 hx
  go_upto_region 2 with fail
  have hbW : Below W0.heap.size W0 (W0.alloc (.cells #[.int .i64 1] 3)) := (Below.refl _ _).alloc (Nat.le_refl _) _
  have h1 : Ints (W0.alloc (.cells #[.int .i64 1] 3)) Any (some ⟨W0.heap.size, 0, none⟩) [1] := ints1_of ⟨by omega, by omega⟩ (by rw [World.cell?_alloc_at _ _ _ _ rfl]; rfl) (by simp)
  have hmk : MkL (W0.alloc (.cells #[.int .i64 1] 3)) ((W0.alloc (.cells #[.int .i64 1] 3)).alloc (.cells #[.slice (some ⟨W0.heap.size, 0, none⟩) 1 1, .slice none 0 0] 36)) (W0.heap.size + 1) 36 (.slice (some ⟨W0.heap.size, 0, none⟩) 1 1) (.slice none 0 0) (probeC 0) := by
    have e : W0.heap.size + 1 = (W0.alloc (.cells #[.int .i64 1] 3)).heap.size := by simp
    rw [e]
    refine ⟨?_, World.ownsRow_nil _ _ _ _, by simp [Value.ownBlock], Nat.le_refl _, (Below.refl _ _).alloc (Nat.le_refl _) _⟩
    show (Array.push _ _)[_]? = _
    rw [Array.getElem?_push, if_pos rfl]
  have HW0 : Hid ((W0.alloc (.cells #[.int .i64 1] 3)).heap.size = W0.heap.size + 1) := by unfold Hid; simp
  have HMk := Lib.hid hmk
  have HB1 := Lib.hid (HB0.out.trans (hbW.mono HB0.out.size))
  have HX := Lib.hid (HX0.out.below hbW)
  have H1 := Lib.hid h1
  generalize (W0.alloc (.cells #[.int .i64 1] 3)).alloc (.cells #[.slice (some ⟨W0.heap.size, 0, none⟩) 1 1, .slice none 0 0] 36) = W1 at *
  generalize W0.alloc (.cells #[.int .i64 1] 3) = W at *
  clear hbW h1 hmk
  go_wp2
  go_loopw [6] (fun i wr => ∃ (j : Nat) (v : Value), j ≤ n ∧ i = .int .i64 (j : Int) ∧ Hid (MkL W wr (W0.heap.size + 1) 36 (.slice (some ⟨W0.heap.size, 0, none⟩) 1 1) v (probeC j))) (fun i _ => n - (intOf i).toNat)
  case atStart => exact ⟨0, _, Nat.zero_le _, rfl, HMk.out⟩
  case round =>
    obtain ⟨j, v, hj, rfl, HM⟩ := hrel
    by_cases hlt : j < n
    · have k1 := HM.out.c1
      have hj2 : j < 1000 := by omega
      go_wp2_with (at_builtin; refine wpList_append_src rfl (.tmp 15) (.tmp 17) 34 34 rfl W.heap.size 26 (.agg #[.int .i64 0, .int .i64 0, .int .i64 0, .int .i64 0, .int .i64 0, .int .i64 0, .int .i64 0, .slice none 0 0, .slice none 0 0]) 9 104 Try.underlying34 Try.underlying34 Try.infoLay rfl (by omega) v j (probeC j).flatten rfl (by have h := HM.out.own.alloc (.cells #[.int .i64 5, .int .i64 0, .int .i64 0, .int .i64 0, .int .i64 0, .int .i64 0, .int .i64 0, .slice none 0 0, .slice none 0 0] 26); rw [probeC_len] at h; exact h) (some ⟨wr.heap.size, 0, none⟩) 1 1 (layC reluL none none 0 0) rfl (srcOK_alloc9 wr (layC reluL none none 0 0) _ rfl (layC_one _ _ _ _ _)) (by omega) (by unfold maxLen; omega) (by have := HM.out.be.size; simp; omega) ?_; intro v' w' hown hg hn2; obtain ⟨av, cv, rfl⟩ := own_form9 hown; have k3 := (HM.out.mid (v' := .slice av (j + 1) cv) (c := layC reluL none none 0 0) hg).2.1; have k4 := (HM.out.mid (v' := .slice av (j + 1) cv) (c := layC reluL none none 0 0) hg).2.2; have HOwn := Lib.hid hown; have HG := Lib.hid hg; have HN2 := Lib.hid hn2; clear hown hg hn2)
      have hst := HM.out.step (c := layC reluL none none 0 0) (by rw [probeC_len]; exact HOwn.out) HG.out HN2.out
      rw [probeC_succ] at hst
      have HSt := Lib.hid hst
      clear hst k1 k3 k4
      go_roundw
      case rel => exact ⟨j + 1, _, hlt, by go_num, HSt.out⟩
      case measure => simp [intOf]; omega
    · obtain rfl : j = n := by omega
      obtain ⟨a0, c0, rfl⟩ := own_form9 HM.out.own
      rw [probeC_len] at HM
      have HXw := Lib.hid (HX.out.below HM.out.be)
      obtain ⟨x0, x1, x2, x3, x4, x5, x6, x7, x8, xlt⟩ := HXw.out
      have k1 := HM.out.c1
      clear hlt HMk
      go_wp2_with (at_builtin; refine wpList_append_src rfl (.tmp 21) (.tmp 23) 34 34 rfl W.heap.size 26 (.agg #[.int .i64 0, .int .i64 0, .int .i64 0, .int .i64 0, .int .i64 0, .int .i64 0, .int .i64 0, .slice none 0 0, .slice none 0 0]) 9 104 Try.underlying34 Try.underlying34 Try.infoLay rfl (by omega) (.slice a0 j c0) j (probeC j).flatten rfl (by have h := HM.out.own.alloc (.cells #[.int .i64 l.kind, .int .i64 l.frm, .int .i64 l.out, .int .i64 l.kh, .int .i64 l.kw, .int .i64 l.stride, .int .i64 l.pad, .slice b1 l.weights.length d1, .slice b2 l.bias.length d2] 26); rw [probeC_len] at h; exact h) (some ⟨wr.heap.size, 0, none⟩) 1 1 (layC l b1 b2 d1 d2) rfl (srcOK_alloc9 wr (layC l b1 b2 d1 d2) _ rfl (layC_one _ _ _ _ _)) (by omega) (by unfold maxLen; omega) (by have := HM.out.be.size; simp; omega) ?_; intro v' w' hown hg hn2; obtain ⟨av, cv, rfl⟩ := own_form9 hown; have k3 := (HM.out.mid (v' := .slice av (j + 1) cv) (c := layC l b1 b2 d1 d2) hg).2.1; have k4 := (HM.out.mid (v' := .slice av (j + 1) cv) (c := layC l b1 b2 d1 d2) hg).2.2; have k5 : w'.cell? ⟨W0.heap.size + 1, 0, none⟩ = some (.slice (some ⟨W0.heap.size, 0, none⟩) 1 1) := (by have hbx := (HM.out.mid (v' := .slice av (j + 1) cv) (c := layC l b1 b2 d1 d2) hg).1; simp [World.cell?, hbx]); have HOwn := Lib.hid hown; have HG := Lib.hid hg; have HN2 := Lib.hid hn2; clear hown hg hn2)
      have hst := HM.out.step (c := layC l b1 b2 d1 d2) (by rw [probeC_len]; exact HOwn.out) HG.out HN2.out
      have hbe := HB1.out.trans (hst.be.mono HB1.out.size)
      obtain ⟨hrow, h9⟩ := probe_rows (n := j) (l := l) (d1 := d1) (d2 := d2) (R1.out.below hbe) (R2.out.below hbe)
      have hown2 := hst.own
      rw [show (probeC j ++ [layC l b1 b2 d1 d2]).length = j + 1 by rw [List.length_append, probeC_len]; rfl] at hown2
      have hLL : (List.replicate j reluL ++ [l]).length = j + 1 := by simp
      obtain ⟨a9, c9, hv9, hlays⟩ := own_lays (L := List.replicate j reluL ++ [l]) hown2 hLL.symm (by omega) (by rw [List.length_append, probeC_len]; rfl) hrow h9
      have hav : av = a9 := by injection hv9
      rw [← hav] at hlays
      have HLays := Lib.hid hlays
      have HVm := Lib.hid (r12Valid (m := ⟨[1], List.replicate j reluL ++ [l]⟩) 1 cv (H1.out.below hst.be) HLays.out (by
          intro x hx
          rcases List.mem_append.1 hx with h | h
          · rw [List.eq_of_mem_replicate h]; unfold LayRange reluL I64; simp
          · simp at h; subst h; exact HRg.out) (by
          intro x hx
          rcases List.mem_append.1 hx with h | h
          · rw [List.eq_of_mem_replicate h]; exact ⟨by simp [reluL], by simp [reluL]⟩
          · simp at h; subst h; exact HLe.out))
      rw [validM_probe, show validL [1] = true by decide, Bool.true_and, HR.out] at HVm
      simp only [hLL] at HVm
      have HBe := Lib.hid hbe
      clear hst hbe hrow h9 hown2 hLL hv9 hlays hav k1 k3 k4 k5 x0 x1 x2 x3 x4 x5 x6 x7 x8 xlt HOwn HG HN2
      generalize w'.setCell ⟨W0.heap.size + 1, 1, none⟩ (.slice av (j + 1) cv) = w2 at *
      refine HVm.out.mono ?_
      rintro e w3 ⟨rfl, hb3⟩
      have HB3 := Lib.hid (HBe.out.trans (hb3.mono HBe.out.size))
      clear hb3 HVm
      go_wp2
      go_ret
      exact ⟨rfl, HB3.out⟩

end Go.Proofs.Ythlmgejikbmmaaa
