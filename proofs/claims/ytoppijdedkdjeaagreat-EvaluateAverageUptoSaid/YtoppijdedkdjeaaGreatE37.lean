/-
  Contracts of the functions that the statement reaches: ModQ, ModS.
-/
import Derived.Test.YtoppijdedkdjeaaGreatE36
set_option linter.unusedVariables false
set_option linter.unusedSimpArgs false
set_option linter.constructorNameAsVariable false
set_option linter.deprecated false
set_option maxRecDepth 100000
set_option maxHeartbeats 3200000
namespace Go.Proofs.YtoppijdedkdjeaaGreat
open Go.RowKit
open Go.Lib (hid)
theorem r12Layer1 {w : World} {v : Value} {l : LayL} (hv : LayV w v l) (hr : LayRange l) (hle : LayLe l) (i : Int) (hi : 0 <= i) (hi2 : i <= 1000000) (hk : l.kind = 1) :
  Calls Tryz.prog 92 #[v, .int .i64 i] w fun e w' => e = .returned (.bool (layOK l i)) /\ Below w.heap.size w w' := by
 rw [<- refLay_eq]
 obtain ⟨a1, a2, c1, c2, rfl, r1, r2⟩ := hv.ex
 have q1 := r1.len
 have q2 := r2.len
 have R1 := hid r1
 have R2 := hid r2
 have HLe := hid hle
 generalize hRr : refLay l i = RR
 unfold refLay at hRr
 have HRd := hid hRr
 have HKD := hid hk
 clear hRr hv r1 r2 hr hle hk
 go_enter Tryz.func92, Tryz.ntmps92
 go_upto_region 1 with fail
 have hb0 : Below w.heap.size w (w.alloc (layO l a1 c1 a2 c2 42)) := (Below.refl _ _).alloc (Nat.le_refl _) _
 have hx := Box9.alloc w (.int .i64 l.kind) (.int .i64 l.frm) (.int .i64 l.out) (.int .i64 l.kh) (.int .i64 l.kw) (.int .i64 l.stride) (.int .i64 l.pad) (.slice a1 l.weights.length c1) (.slice a2 l.bias.length c2) 42
 generalize w.alloc (layO l a1 c1 a2 c2 42) = W at *
 have HB := hid hb0
 have HX := hid hx
 clear hx hb0
 obtain ⟨x0, x1, x2, x3, x4, x5, x6, x7, x8, xlt⟩ := HX.out
 have C1 : Hid (∀ W, Calls Tryz.prog 114 #[.int .i64 l.kh, .int .i64 1, .int .i64 64] W fun e w' => e = .returned (.bool (sidB l.kh)) /\ W = w') := fun W => by rw [<- wthn_sid]; exact r12Within _ _ _ W
 have C2 : Hid (∀ W, Calls Tryz.prog 114 #[.int .i64 l.kw, .int .i64 1, .int .i64 64] W fun e w' => e = .returned (.bool (sidB l.kw)) /\ W = w') := fun W => by rw [<- wthn_sid]; exact r12Within _ _ _ W
 have C3 : Hid (∀ W, Calls Tryz.prog 114 #[.int .i64 l.stride, .int .i64 1, .int .i64 64] W fun e w' => e = .returned (.bool (sidB l.stride)) /\ W = w') := fun W => by rw [<- wthn_sid]; exact r12Within _ _ _ W
 go_cut [5] (fun s5 wx => Hid (.bool (kerB l) = s5) /\ Hid (W = wx))
 case first =>
  have HK : Hid (kerB l = (sidB l.kh && (sidB l.kw && sidB l.stride))) := rfl
  cases e1 : sidB l.kh with
  | false =>
   rw [e1] at C1 HK
   clear e1
   go_wp2_with fail
   refine (C1.out _).mono ?_
   rintro e w' ⟨rfl, rfl⟩
   go_wp2_with fail
   go_meet
   exact ⟨by unfold Hid; rw [HK.out]; rfl, rfl⟩
  | true =>
   rw [e1] at C1 HK
   clear e1
   cases e2 : sidB l.kw with
   | false =>
    rw [e2] at C2 HK
    clear e2
    go_wp2_with fail
    refine (C1.out _).mono ?_
    rintro e w' ⟨rfl, rfl⟩
    go_wp2_with fail
    refine (C2.out _).mono ?_
    rintro e w' ⟨rfl, rfl⟩
    go_wp2_with fail
    go_meet
    exact ⟨by unfold Hid; rw [HK.out]; rfl, rfl⟩
   | true =>
    rw [e2] at C2 HK
    clear e2
    generalize sidB l.stride = z at *
    go_wp2_with fail
    refine (C1.out _).mono ?_
    rintro e w' ⟨rfl, rfl⟩
    go_wp2_with fail
    refine (C2.out _).mono ?_
    rintro e w' ⟨rfl, rfl⟩
    go_wp2_with fail
    refine (C3.out _).mono ?_
    rintro e w' ⟨rfl, rfl⟩
    go_wp2_with fail
    go_meet
    exact ⟨by unfold Hid; rw [HK.out]; rfl, rfl⟩
 case rest =>
  obtain ⟨hs, hwx⟩ := hcut
  have e1 := hs.out
  have e2 := hwx.out
  clear hs hwx
  subst e1
  subst e2
  go_upto_region 2 with fail
  go_cut [6] (fun s6 wx => Hid (.bool (noneL l) = s6) /\ Hid (W = wx))
  case first =>
   have HK : Hid (noneL l = (((l.weights.length : Int) == 0) && ((l.bias.length : Int) == 0))) := rfl
   cases f0 : ((l.weights.length : Int) == 0) with
   | false =>
    go_wp2_with fail
    go_meet
    exact ⟨by unfold Hid; rw [HK.out, f0]; rfl, rfl⟩
   | true =>
    cases f1 : ((l.bias.length : Int) == 0) with
    | false =>
     go_wp2_with fail
     go_meet
     exact ⟨by unfold Hid; rw [HK.out, f0, f1]; rfl, rfl⟩
    | true =>
     go_wp2_with fail
     go_meet
     exact ⟨by unfold Hid; rw [HK.out, f0, f1]; rfl, rfl⟩
  case rest =>
   obtain ⟨hs, hwx⟩ := hcut
   have e1 := hs.out
   have e2 := hwx.out
   clear hs hwx
   subst e1
   subst e2
   go_upto_region 3 with fail
   go_cut [7] (fun s7 wx => Hid (.bool (flatB l) = s7) /\ Hid (W = wx))
   case first =>
    have HK : Hid (flatB l = ((l.kh == 0) && ((l.kw == 0) && ((l.stride == 0) && (l.pad == 0))))) := rfl
    cases f0 : (l.kh == 0) with
    | false =>
     go_wp2_with fail
     go_meet
     exact ⟨by unfold Hid; rw [HK.out, f0]; rfl, rfl⟩
    | true =>
     cases f1 : (l.kw == 0) with
     | false =>
      go_wp2_with fail
      go_meet
      exact ⟨by unfold Hid; rw [HK.out, f0, f1]; rfl, rfl⟩
     | true =>
      cases f2 : (l.stride == 0) with
      | false =>
       go_wp2_with fail
       go_meet
       exact ⟨by unfold Hid; rw [HK.out, f0, f1, f2]; rfl, rfl⟩
      | true =>
       cases f3 : (l.pad == 0) with
       | false =>
        go_wp2_with fail
        go_meet
        exact ⟨by unfold Hid; rw [HK.out, f0, f1, f2, f3]; rfl, rfl⟩
       | true =>
        go_wp2_with fail
        go_meet
        exact ⟨by unfold Hid; rw [HK.out, f0, f1, f2, f3]; rfl, rfl⟩
   case rest =>
    obtain ⟨hs, hwx⟩ := hcut
    have e1 := hs.out
    have e2 := hwx.out
    clear hs hwx
    subst e1
    subst e2
    go_upto_region 4 with fail
    obtain ⟨K, hK⟩ : ∃ K, kerB l = K := ⟨_, rfl⟩
    have HKe := hid hK
    rw [hK] at HRd ⊢
    clear hK
    generalize noneL l = NB at *
    generalize flatB l = FB at *
    have CA := hid (r12Canonical c1 (R1.out.below HB.out) HLe.out.wts)
    cases h1 : l.weights.all validR with
    | false =>
     have HF : Hid (RR = false) := by unfold Hid; rw [<- HRd.out, h1]; rfl
     rw [h1] at CA
     clear h1
     go_wp2_with fail
     refine CA.out.mono ?_
     rintro e w1 ⟨rfl, hb1⟩
     have HB1 := hid (HB.out.trans (hb1.mono HB.out.size))
     clear hb1 x0 x1 x2 x3 x4 x5 x6 x7 x8
     go_wp2
     go_ret
     exact ⟨ret_bool HF.out.symm, HB1.out⟩
    | true =>
     rw [h1] at CA
     have HE1 := hid h1
     clear h1
     go_wp2_with fail
     refine CA.out.mono ?_
     rintro e w1 ⟨rfl, hb1⟩
     have HB1 := hid (HB.out.trans (hb1.mono HB.out.size))
     have HX1 := hid (HX.out.below hb1)
     clear hb1 x0 x1 x2 x3 x4 x5 x6 x7 x8 xlt CA
     obtain ⟨x0, x1, x2, x3, x4, x5, x6, x7, x8, xlt⟩ := HX1.out
     have CB := hid (r12Canonical c2 (R2.out.below HB1.out) HLe.out.bias)
     cases h2 : l.bias.all validR with
     | false =>
      have HF : Hid (RR = false) := by unfold Hid; rw [<- HRd.out, HE1.out, h2]; rfl
      rw [h2] at CB
      clear h2
      go_wp2_with fail
      refine CB.out.mono ?_
      rintro e w2 ⟨rfl, hb2⟩
      have HB2 := hid (HB1.out.trans (hb2.mono HB1.out.size))
      clear hb2 x0 x1 x2 x3 x4 x5 x6 x7 x8
      go_wp2
      go_ret
      exact ⟨ret_bool HF.out.symm, HB2.out⟩
     | true =>
      rw [h2] at CB
      have HE2 := hid h2
      clear h2
      go_wp2_with fail
      refine CB.out.mono ?_
      rintro e w2 ⟨rfl, hb2⟩
      have HB2 := hid (HB1.out.trans (hb2.mono HB1.out.size))
      have HX2 := hid (HX1.out.below hb2)
      clear hb2 x0 x1 x2 x3 x4 x5 x6 x7 x8 xlt CB
      obtain ⟨x0, x1, x2, x3, x4, x5, x6, x7, x8, xlt⟩ := HX2.out
      have hk := HKD.out
      have HRk : Hid ((FB && ((l.frm == 0) && (wthn l.out 1 16384 && (((l.bias.length : Int) == l.out) && multB l.weights.length l.out)))) = RR) := by
       have h := HRd.out
       rw [HE1.out, HE2.out, Bool.true_and, Bool.true_and, if_pos hk] at h
       exact h
      have k1 : (l.kind == 1) = true := by rw [beq_iff_eq]; omega
      clear hk
      cases FB with
      | false =>
       have HR : Hid (RR = false) := by unfold Hid; rw [<- HRk.out]; rfl
       go_wp2
       go_ret
       exact ⟨ret_bool HR.out.symm, HB2.out⟩
      | true =>
       cases g1 : (l.frm == 0) with
       | false =>
        have HR : Hid (RR = false) := by unfold Hid; rw [<- HRk.out, g1]; rfl
        go_wp2
        go_ret
        exact ⟨ret_bool HR.out.symm, HB2.out⟩
       | true =>
        have HW2 := hid (fun W => r12Within l.out 1 16384 W)
        cases g2 : wthn l.out 1 16384 with
        | false =>
         have HG2 := hid g2
         rw [g2] at HW2
         clear g2
         have HR : Hid (RR = false) := by unfold Hid; rw [<- HRk.out, g1, HG2.out]; rfl
         go_wp2_with fail
         refine (HW2.out _).mono ?_
         rintro e w' ⟨rfl, rfl⟩
         go_wp2
         go_ret
         exact ⟨ret_bool HR.out.symm, HB2.out⟩
        | true =>
         have HG2 := hid g2
         rw [g2] at HW2
         obtain ⟨o1, o2⟩ := wthn_iff.1 g2
         clear g2
         cases g3 : ((l.bias.length : Int) == l.out) with
         | false =>
          have HR : Hid (RR = false) := by unfold Hid; rw [<- HRk.out, g1, HG2.out, g3]; rfl
          go_wp2_with fail
          refine (HW2.out _).mono ?_
          rintro e w' ⟨rfl, rfl⟩
          go_wp2
          go_ret
          exact ⟨ret_bool HR.out.symm, HB2.out⟩
         | true =>
          have HM := hid (fun W => r12Multiple l.weights.length l.out q1 (by omega) (by omega) W)
          have HR : Hid (RR = multB l.weights.length l.out) := by unfold Hid; rw [<- HRk.out, g1, HG2.out, g3]; rfl
          generalize multB l.weights.length l.out = mb at *
          go_wp2_with fail
          refine (HW2.out _).mono ?_
          rintro e w' ⟨rfl, rfl⟩
          go_wp2_with fail
          refine (HM.out _).mono ?_
          rintro e w' ⟨rfl, rfl⟩
          go_wp2
          go_ret
          exact ⟨ret_bool HR.out.symm, HB2.out⟩
theorem r12Layer2 {w : World} {v : Value} {l : LayL} (hv : LayV w v l) (hr : LayRange l) (hle : LayLe l) (i : Int) (hi : 0 <= i) (hi2 : i <= 1000000) (hk : l.kind = 2) :
  Calls Tryz.prog 92 #[v, .int .i64 i] w fun e w' => e = .returned (.bool (layOK l i)) /\ Below w.heap.size w w' := by
 rw [<- refLay_eq]
 obtain ⟨a1, a2, c1, c2, rfl, r1, r2⟩ := hv.ex
 have q1 := r1.len
 have q2 := r2.len
 have R1 := hid r1
 have R2 := hid r2
 have HLe := hid hle
 generalize hRr : refLay l i = RR
 unfold refLay at hRr
 have HRd := hid hRr
 have HKD := hid hk
 clear hRr hv r1 r2 hr hle hk
 go_enter Tryz.func92, Tryz.ntmps92
 go_upto_region 1 with fail
 have hb0 : Below w.heap.size w (w.alloc (layO l a1 c1 a2 c2 42)) := (Below.refl _ _).alloc (Nat.le_refl _) _
 have hx := Box9.alloc w (.int .i64 l.kind) (.int .i64 l.frm) (.int .i64 l.out) (.int .i64 l.kh) (.int .i64 l.kw) (.int .i64 l.stride) (.int .i64 l.pad) (.slice a1 l.weights.length c1) (.slice a2 l.bias.length c2) 42
 generalize w.alloc (layO l a1 c1 a2 c2 42) = W at *
 have HB := hid hb0
 have HX := hid hx
 clear hx hb0
 obtain ⟨x0, x1, x2, x3, x4, x5, x6, x7, x8, xlt⟩ := HX.out
 have C1 : Hid (∀ W, Calls Tryz.prog 114 #[.int .i64 l.kh, .int .i64 1, .int .i64 64] W fun e w' => e = .returned (.bool (sidB l.kh)) /\ W = w') := fun W => by rw [<- wthn_sid]; exact r12Within _ _ _ W
 have C2 : Hid (∀ W, Calls Tryz.prog 114 #[.int .i64 l.kw, .int .i64 1, .int .i64 64] W fun e w' => e = .returned (.bool (sidB l.kw)) /\ W = w') := fun W => by rw [<- wthn_sid]; exact r12Within _ _ _ W
 have C3 : Hid (∀ W, Calls Tryz.prog 114 #[.int .i64 l.stride, .int .i64 1, .int .i64 64] W fun e w' => e = .returned (.bool (sidB l.stride)) /\ W = w') := fun W => by rw [<- wthn_sid]; exact r12Within _ _ _ W
 go_cut [5] (fun s5 wx => Hid (.bool (kerB l) = s5) /\ Hid (W = wx))
 case first =>
  have HK : Hid (kerB l = (sidB l.kh && (sidB l.kw && sidB l.stride))) := rfl
  cases e1 : sidB l.kh with
  | false =>
   rw [e1] at C1 HK
   clear e1
   go_wp2_with fail
   refine (C1.out _).mono ?_
   rintro e w' ⟨rfl, rfl⟩
   go_wp2_with fail
   go_meet
   exact ⟨by unfold Hid; rw [HK.out]; rfl, rfl⟩
  | true =>
   rw [e1] at C1 HK
   clear e1
   cases e2 : sidB l.kw with
   | false =>
    rw [e2] at C2 HK
    clear e2
    go_wp2_with fail
    refine (C1.out _).mono ?_
    rintro e w' ⟨rfl, rfl⟩
    go_wp2_with fail
    refine (C2.out _).mono ?_
    rintro e w' ⟨rfl, rfl⟩
    go_wp2_with fail
    go_meet
    exact ⟨by unfold Hid; rw [HK.out]; rfl, rfl⟩
   | true =>
    rw [e2] at C2 HK
    clear e2
    generalize sidB l.stride = z at *
    go_wp2_with fail
    refine (C1.out _).mono ?_
    rintro e w' ⟨rfl, rfl⟩
    go_wp2_with fail
    refine (C2.out _).mono ?_
    rintro e w' ⟨rfl, rfl⟩
    go_wp2_with fail
    refine (C3.out _).mono ?_
    rintro e w' ⟨rfl, rfl⟩
    go_wp2_with fail
    go_meet
    exact ⟨by unfold Hid; rw [HK.out]; rfl, rfl⟩
 case rest =>
  obtain ⟨hs, hwx⟩ := hcut
  have e1 := hs.out
  have e2 := hwx.out
  clear hs hwx
  subst e1
  subst e2
  go_upto_region 2 with fail
  go_cut [6] (fun s6 wx => Hid (.bool (noneL l) = s6) /\ Hid (W = wx))
  case first =>
   have HK : Hid (noneL l = (((l.weights.length : Int) == 0) && ((l.bias.length : Int) == 0))) := rfl
   cases f0 : ((l.weights.length : Int) == 0) with
   | false =>
    go_wp2_with fail
    go_meet
    exact ⟨by unfold Hid; rw [HK.out, f0]; rfl, rfl⟩
   | true =>
    cases f1 : ((l.bias.length : Int) == 0) with
    | false =>
     go_wp2_with fail
     go_meet
     exact ⟨by unfold Hid; rw [HK.out, f0, f1]; rfl, rfl⟩
    | true =>
     go_wp2_with fail
     go_meet
     exact ⟨by unfold Hid; rw [HK.out, f0, f1]; rfl, rfl⟩
  case rest =>
   obtain ⟨hs, hwx⟩ := hcut
   have e1 := hs.out
   have e2 := hwx.out
   clear hs hwx
   subst e1
   subst e2
   go_upto_region 3 with fail
   go_cut [7] (fun s7 wx => Hid (.bool (flatB l) = s7) /\ Hid (W = wx))
   case first =>
    have HK : Hid (flatB l = ((l.kh == 0) && ((l.kw == 0) && ((l.stride == 0) && (l.pad == 0))))) := rfl
    cases f0 : (l.kh == 0) with
    | false =>
     go_wp2_with fail
     go_meet
     exact ⟨by unfold Hid; rw [HK.out, f0]; rfl, rfl⟩
    | true =>
     cases f1 : (l.kw == 0) with
     | false =>
      go_wp2_with fail
      go_meet
      exact ⟨by unfold Hid; rw [HK.out, f0, f1]; rfl, rfl⟩
     | true =>
      cases f2 : (l.stride == 0) with
      | false =>
       go_wp2_with fail
       go_meet
       exact ⟨by unfold Hid; rw [HK.out, f0, f1, f2]; rfl, rfl⟩
      | true =>
       cases f3 : (l.pad == 0) with
       | false =>
        go_wp2_with fail
        go_meet
        exact ⟨by unfold Hid; rw [HK.out, f0, f1, f2, f3]; rfl, rfl⟩
       | true =>
        go_wp2_with fail
        go_meet
        exact ⟨by unfold Hid; rw [HK.out, f0, f1, f2, f3]; rfl, rfl⟩
   case rest =>
    obtain ⟨hs, hwx⟩ := hcut
    have e1 := hs.out
    have e2 := hwx.out
    clear hs hwx
    subst e1
    subst e2
    go_upto_region 4 with fail
    obtain ⟨K, hK⟩ : ∃ K, kerB l = K := ⟨_, rfl⟩
    have HKe := hid hK
    rw [hK] at HRd ⊢
    clear hK
    generalize noneL l = NB at *
    generalize flatB l = FB at *
    have CA := hid (r12Canonical c1 (R1.out.below HB.out) HLe.out.wts)
    cases h1 : l.weights.all validR with
    | false =>
     have HF : Hid (RR = false) := by unfold Hid; rw [<- HRd.out, h1]; rfl
     rw [h1] at CA
     clear h1
     go_wp2_with fail
     refine CA.out.mono ?_
     rintro e w1 ⟨rfl, hb1⟩
     have HB1 := hid (HB.out.trans (hb1.mono HB.out.size))
     clear hb1 x0 x1 x2 x3 x4 x5 x6 x7 x8
     go_wp2
     go_ret
     exact ⟨ret_bool HF.out.symm, HB1.out⟩
    | true =>
     rw [h1] at CA
     have HE1 := hid h1
     clear h1
     go_wp2_with fail
     refine CA.out.mono ?_
     rintro e w1 ⟨rfl, hb1⟩
     have HB1 := hid (HB.out.trans (hb1.mono HB.out.size))
     have HX1 := hid (HX.out.below hb1)
     clear hb1 x0 x1 x2 x3 x4 x5 x6 x7 x8 xlt CA
     obtain ⟨x0, x1, x2, x3, x4, x5, x6, x7, x8, xlt⟩ := HX1.out
     have CB := hid (r12Canonical c2 (R2.out.below HB1.out) HLe.out.bias)
     cases h2 : l.bias.all validR with
     | false =>
      have HF : Hid (RR = false) := by unfold Hid; rw [<- HRd.out, HE1.out, h2]; rfl
      rw [h2] at CB
      clear h2
      go_wp2_with fail
      refine CB.out.mono ?_
      rintro e w2 ⟨rfl, hb2⟩
      have HB2 := hid (HB1.out.trans (hb2.mono HB1.out.size))
      clear hb2 x0 x1 x2 x3 x4 x5 x6 x7 x8
      go_wp2
      go_ret
      exact ⟨ret_bool HF.out.symm, HB2.out⟩
     | true =>
      rw [h2] at CB
      have HE2 := hid h2
      clear h2
      go_wp2_with fail
      refine CB.out.mono ?_
      rintro e w2 ⟨rfl, hb2⟩
      have HB2 := hid (HB1.out.trans (hb2.mono HB1.out.size))
      have HX2 := hid (HX1.out.below hb2)
      clear hb2 x0 x1 x2 x3 x4 x5 x6 x7 x8 xlt CB
      obtain ⟨x0, x1, x2, x3, x4, x5, x6, x7, x8, xlt⟩ := HX2.out
      have hk := HKD.out
      have HRk : Hid ((K && ((l.frm == 0) && (decide (0 <= l.pad) && (decide (l.pad < l.kh) && (decide (l.pad < l.kw) && (wthn l.out 1 16384 && (((l.bias.length : Int) == l.out) && multB l.weights.length (l.out * l.kh * l.kw)))))))) = RR) := by
       have h := HRd.out
       rw [HE1.out, HE2.out, Bool.true_and, Bool.true_and, if_neg (by omega), if_pos hk] at h
       exact h
      have k1 : (l.kind == 1) = false := by rw [beq_eq_false_iff_ne]; omega
      have k2 : (l.kind == 2) = true := by rw [beq_iff_eq]; omega
      clear hk
      cases K with
      | false =>
       have HR : Hid (RR = false) := by unfold Hid; rw [<- HRk.out]; rfl
       go_wp2
       go_ret
       exact ⟨ret_bool HR.out.symm, HB2.out⟩
      | true =>
       cases g1 : (l.frm == 0) with
       | false =>
        have HR : Hid (RR = false) := by unfold Hid; rw [<- HRk.out, g1]; rfl
        go_wp2
        go_ret
        exact ⟨ret_bool HR.out.symm, HB2.out⟩
       | true =>
        by_cases g2 : 0 <= l.pad
        ·by_cases g3 : l.pad < l.kh
         ·by_cases g4 : l.pad < l.kw
          ·have HW5 := hid (fun W => r12Within l.out 1 16384 W)
           cases g5 : wthn l.out 1 16384 with
           | false =>
            have HG5 := hid g5
            rw [g5] at HW5
            clear g5
            have HR : Hid (RR = false) := by unfold Hid; rw [<- HRk.out, g1, decide_eq_true g2, decide_eq_true g3, decide_eq_true g4, HG5.out]; rfl
            go_wp2_with fail
            refine (HW5.out _).mono ?_
            rintro e w' ⟨rfl, rfl⟩
            go_wp2
            go_ret
            exact ⟨ret_bool HR.out.symm, HB2.out⟩
           | true =>
            have HG5 := hid g5
            rw [g5] at HW5
            obtain ⟨o1, o2⟩ := wthn_iff.1 g5
            clear g5
            cases g6 : ((l.bias.length : Int) == l.out) with
            | false =>
             have HR : Hid (RR = false) := by unfold Hid; rw [<- HRk.out, g1, decide_eq_true g2, decide_eq_true g3, decide_eq_true g4, HG5.out, g6]; rfl
             go_wp2_with fail
             refine (HW5.out _).mono ?_
             rintro e w' ⟨rfl, rfl⟩
             go_wp2
             go_ret
             exact ⟨ret_bool HR.out.symm, HB2.out⟩
            | true =>
             obtain ⟨⟨u1, u2⟩, ⟨u3, u4⟩, _⟩ : (1 <= l.kh /\ l.kh <= 64) /\ (1 <= l.kw /\ l.kw <= 64) /\ (1 <= l.stride /\ l.stride <= 64) := by have e2 := HKe.out; unfold kerB sidB at e2; simpa using e2
             obtain ⟨⟨m1, m2⟩, m3, m4⟩ := conv_bd o1 o2 u1 u2 u3 u4
             have HM := hid (fun W => r12Multiple l.weights.length (l.out * l.kh * l.kw) q1 (by omega) (by omega) W)
             have HR : Hid (RR = multB l.weights.length (l.out * l.kh * l.kw)) := by unfold Hid; rw [<- HRk.out, g1, decide_eq_true g2, decide_eq_true g3, decide_eq_true g4, HG5.out, g6]; rfl
             generalize multB l.weights.length (l.out * l.kh * l.kw) = mb at *
             go_wp2_with fail
             refine (HW5.out _).mono ?_
             rintro e w' ⟨rfl, rfl⟩
             go_wp2_with fail
             refine (HM.out _).mono ?_
             rintro e w' ⟨rfl, rfl⟩
             go_wp2
             go_ret
             exact ⟨ret_bool HR.out.symm, HB2.out⟩
          ·have HR : Hid (RR = false) := by unfold Hid; rw [<- HRk.out, g1, decide_eq_true g2, decide_eq_true g3, decide_eq_false g4]; rfl
           go_wp2
           go_ret
           exact ⟨ret_bool HR.out.symm, HB2.out⟩
         ·have HR : Hid (RR = false) := by unfold Hid; rw [<- HRk.out, g1, decide_eq_true g2, decide_eq_false g3]; rfl
          go_wp2
          go_ret
          exact ⟨ret_bool HR.out.symm, HB2.out⟩
        ·have HR : Hid (RR = false) := by unfold Hid; rw [<- HRk.out, g1, decide_eq_false g2]; rfl
         go_wp2
         go_ret
         exact ⟨ret_bool HR.out.symm, HB2.out⟩
theorem r12Layer3 {w : World} {v : Value} {l : LayL} (hv : LayV w v l) (hr : LayRange l) (hle : LayLe l) (i : Int) (hi : 0 <= i) (hi2 : i <= 1000000) (hk : l.kind = 3) :
  Calls Tryz.prog 92 #[v, .int .i64 i] w fun e w' => e = .returned (.bool (layOK l i)) /\ Below w.heap.size w w' := by
 rw [<- refLay_eq]
 obtain ⟨a1, a2, c1, c2, rfl, r1, r2⟩ := hv.ex
 have q1 := r1.len
 have q2 := r2.len
 have R1 := hid r1
 have R2 := hid r2
 have HLe := hid hle
 generalize hRr : refLay l i = RR
 unfold refLay at hRr
 have HRd := hid hRr
 have HKD := hid hk
 clear hRr hv r1 r2 hr hle hk
 go_enter Tryz.func92, Tryz.ntmps92
 go_upto_region 1 with fail
 have hb0 : Below w.heap.size w (w.alloc (layO l a1 c1 a2 c2 42)) := (Below.refl _ _).alloc (Nat.le_refl _) _
 have hx := Box9.alloc w (.int .i64 l.kind) (.int .i64 l.frm) (.int .i64 l.out) (.int .i64 l.kh) (.int .i64 l.kw) (.int .i64 l.stride) (.int .i64 l.pad) (.slice a1 l.weights.length c1) (.slice a2 l.bias.length c2) 42
 generalize w.alloc (layO l a1 c1 a2 c2 42) = W at *
 have HB := hid hb0
 have HX := hid hx
 clear hx hb0
 obtain ⟨x0, x1, x2, x3, x4, x5, x6, x7, x8, xlt⟩ := HX.out
 have C1 : Hid (∀ W, Calls Tryz.prog 114 #[.int .i64 l.kh, .int .i64 1, .int .i64 64] W fun e w' => e = .returned (.bool (sidB l.kh)) /\ W = w') := fun W => by rw [<- wthn_sid]; exact r12Within _ _ _ W
 have C2 : Hid (∀ W, Calls Tryz.prog 114 #[.int .i64 l.kw, .int .i64 1, .int .i64 64] W fun e w' => e = .returned (.bool (sidB l.kw)) /\ W = w') := fun W => by rw [<- wthn_sid]; exact r12Within _ _ _ W
 have C3 : Hid (∀ W, Calls Tryz.prog 114 #[.int .i64 l.stride, .int .i64 1, .int .i64 64] W fun e w' => e = .returned (.bool (sidB l.stride)) /\ W = w') := fun W => by rw [<- wthn_sid]; exact r12Within _ _ _ W
 go_cut [5] (fun s5 wx => Hid (.bool (kerB l) = s5) /\ Hid (W = wx))
 case first =>
  have HK : Hid (kerB l = (sidB l.kh && (sidB l.kw && sidB l.stride))) := rfl
  cases e1 : sidB l.kh with
  | false =>
   rw [e1] at C1 HK
   clear e1
   go_wp2_with fail
   refine (C1.out _).mono ?_
   rintro e w' ⟨rfl, rfl⟩
   go_wp2_with fail
   go_meet
   exact ⟨by unfold Hid; rw [HK.out]; rfl, rfl⟩
  | true =>
   rw [e1] at C1 HK
   clear e1
   cases e2 : sidB l.kw with
   | false =>
    rw [e2] at C2 HK
    clear e2
    go_wp2_with fail
    refine (C1.out _).mono ?_
    rintro e w' ⟨rfl, rfl⟩
    go_wp2_with fail
    refine (C2.out _).mono ?_
    rintro e w' ⟨rfl, rfl⟩
    go_wp2_with fail
    go_meet
    exact ⟨by unfold Hid; rw [HK.out]; rfl, rfl⟩
   | true =>
    rw [e2] at C2 HK
    clear e2
    generalize sidB l.stride = z at *
    go_wp2_with fail
    refine (C1.out _).mono ?_
    rintro e w' ⟨rfl, rfl⟩
    go_wp2_with fail
    refine (C2.out _).mono ?_
    rintro e w' ⟨rfl, rfl⟩
    go_wp2_with fail
    refine (C3.out _).mono ?_
    rintro e w' ⟨rfl, rfl⟩
    go_wp2_with fail
    go_meet
    exact ⟨by unfold Hid; rw [HK.out]; rfl, rfl⟩
 case rest =>
  obtain ⟨hs, hwx⟩ := hcut
  have e1 := hs.out
  have e2 := hwx.out
  clear hs hwx
  subst e1
  subst e2
  go_upto_region 2 with fail
  go_cut [6] (fun s6 wx => Hid (.bool (noneL l) = s6) /\ Hid (W = wx))
  case first =>
   have HK : Hid (noneL l = (((l.weights.length : Int) == 0) && ((l.bias.length : Int) == 0))) := rfl
   cases f0 : ((l.weights.length : Int) == 0) with
   | false =>
    go_wp2_with fail
    go_meet
    exact ⟨by unfold Hid; rw [HK.out, f0]; rfl, rfl⟩
   | true =>
    cases f1 : ((l.bias.length : Int) == 0) with
    | false =>
     go_wp2_with fail
     go_meet
     exact ⟨by unfold Hid; rw [HK.out, f0, f1]; rfl, rfl⟩
    | true =>
     go_wp2_with fail
     go_meet
     exact ⟨by unfold Hid; rw [HK.out, f0, f1]; rfl, rfl⟩
  case rest =>
   obtain ⟨hs, hwx⟩ := hcut
   have e1 := hs.out
   have e2 := hwx.out
   clear hs hwx
   subst e1
   subst e2
   go_upto_region 3 with fail
   go_cut [7] (fun s7 wx => Hid (.bool (flatB l) = s7) /\ Hid (W = wx))
   case first =>
    have HK : Hid (flatB l = ((l.kh == 0) && ((l.kw == 0) && ((l.stride == 0) && (l.pad == 0))))) := rfl
    cases f0 : (l.kh == 0) with
    | false =>
     go_wp2_with fail
     go_meet
     exact ⟨by unfold Hid; rw [HK.out, f0]; rfl, rfl⟩
    | true =>
     cases f1 : (l.kw == 0) with
     | false =>
      go_wp2_with fail
      go_meet
      exact ⟨by unfold Hid; rw [HK.out, f0, f1]; rfl, rfl⟩
     | true =>
      cases f2 : (l.stride == 0) with
      | false =>
       go_wp2_with fail
       go_meet
       exact ⟨by unfold Hid; rw [HK.out, f0, f1, f2]; rfl, rfl⟩
      | true =>
       cases f3 : (l.pad == 0) with
       | false =>
        go_wp2_with fail
        go_meet
        exact ⟨by unfold Hid; rw [HK.out, f0, f1, f2, f3]; rfl, rfl⟩
       | true =>
        go_wp2_with fail
        go_meet
        exact ⟨by unfold Hid; rw [HK.out, f0, f1, f2, f3]; rfl, rfl⟩
   case rest =>
    obtain ⟨hs, hwx⟩ := hcut
    have e1 := hs.out
    have e2 := hwx.out
    clear hs hwx
    subst e1
    subst e2
    go_upto_region 4 with fail
    obtain ⟨K, hK⟩ : ∃ K, kerB l = K := ⟨_, rfl⟩
    have HKe := hid hK
    rw [hK] at HRd ⊢
    clear hK
    generalize noneL l = NB at *
    generalize flatB l = FB at *
    have CA := hid (r12Canonical c1 (R1.out.below HB.out) HLe.out.wts)
    cases h1 : l.weights.all validR with
    | false =>
     have HF : Hid (RR = false) := by unfold Hid; rw [<- HRd.out, h1]; rfl
     rw [h1] at CA
     clear h1
     go_wp2_with fail
     refine CA.out.mono ?_
     rintro e w1 ⟨rfl, hb1⟩
     have HB1 := hid (HB.out.trans (hb1.mono HB.out.size))
     clear hb1 x0 x1 x2 x3 x4 x5 x6 x7 x8
     go_wp2
     go_ret
     exact ⟨ret_bool HF.out.symm, HB1.out⟩
    | true =>
     rw [h1] at CA
     have HE1 := hid h1
     clear h1
     go_wp2_with fail
     refine CA.out.mono ?_
     rintro e w1 ⟨rfl, hb1⟩
     have HB1 := hid (HB.out.trans (hb1.mono HB.out.size))
     have HX1 := hid (HX.out.below hb1)
     clear hb1 x0 x1 x2 x3 x4 x5 x6 x7 x8 xlt CA
     obtain ⟨x0, x1, x2, x3, x4, x5, x6, x7, x8, xlt⟩ := HX1.out
     have CB := hid (r12Canonical c2 (R2.out.below HB1.out) HLe.out.bias)
     cases h2 : l.bias.all validR with
     | false =>
      have HF : Hid (RR = false) := by unfold Hid; rw [<- HRd.out, HE1.out, h2]; rfl
      rw [h2] at CB
      clear h2
      go_wp2_with fail
      refine CB.out.mono ?_
      rintro e w2 ⟨rfl, hb2⟩
      have HB2 := hid (HB1.out.trans (hb2.mono HB1.out.size))
      clear hb2 x0 x1 x2 x3 x4 x5 x6 x7 x8
      go_wp2
      go_ret
      exact ⟨ret_bool HF.out.symm, HB2.out⟩
     | true =>
      rw [h2] at CB
      have HE2 := hid h2
      clear h2
      go_wp2_with fail
      refine CB.out.mono ?_
      rintro e w2 ⟨rfl, hb2⟩
      have HB2 := hid (HB1.out.trans (hb2.mono HB1.out.size))
      have HX2 := hid (HX1.out.below hb2)
      clear hb2 x0 x1 x2 x3 x4 x5 x6 x7 x8 xlt CB
      obtain ⟨x0, x1, x2, x3, x4, x5, x6, x7, x8, xlt⟩ := HX2.out
      have hk := HKD.out
      have HRk : Hid ((K && ((l.frm == 0) && ((l.pad == 0) && ((l.out == 0) && NB)))) = RR) := by
       have h := HRd.out
       rw [HE1.out, HE2.out, Bool.true_and, Bool.true_and, if_neg (by omega), if_neg (by omega), if_pos (by omega)] at h
       exact h
      have k1 : (l.kind == 1) = false := by rw [beq_eq_false_iff_ne]; omega
      have k2 : (l.kind == 2) = false := by rw [beq_eq_false_iff_ne]; omega
      have k3 : (l.kind == 3) = true := by rw [beq_iff_eq]; omega
      clear hk
      cases K with
      | false =>
       have HR : Hid (RR = false) := by unfold Hid; rw [<- HRk.out]; rfl
       go_wp2
       go_ret
       exact ⟨ret_bool HR.out.symm, HB2.out⟩
      | true =>
       cases g1 : (l.frm == 0) with
       | false =>
        have HR : Hid (RR = false) := by unfold Hid; rw [<- HRk.out, g1]; rfl
        go_wp2
        go_ret
        exact ⟨ret_bool HR.out.symm, HB2.out⟩
       | true =>
        cases g2 : (l.pad == 0) with
        | false =>
         have HR : Hid (RR = false) := by unfold Hid; rw [<- HRk.out, g1, g2]; rfl
         go_wp2
         go_ret
         exact ⟨ret_bool HR.out.symm, HB2.out⟩
        | true =>
         cases g3 : (l.out == 0) with
         | false =>
          have HR : Hid (RR = false) := by unfold Hid; rw [<- HRk.out, g1, g2, g3]; rfl
          go_wp2
          go_ret
          exact ⟨ret_bool HR.out.symm, HB2.out⟩
         | true =>
          cases NB with
          | false =>
           have HR : Hid (RR = false) := by unfold Hid; rw [<- HRk.out, g1, g2, g3]; rfl
           go_wp2
           go_ret
           exact ⟨ret_bool HR.out.symm, HB2.out⟩
          | true =>
           have HR : Hid (RR = true) := by unfold Hid; rw [<- HRk.out, g1, g2, g3]; rfl
           go_wp2
           go_ret
           exact ⟨ret_bool HR.out.symm, HB2.out⟩
theorem r12Layer4 {w : World} {v : Value} {l : LayL} (hv : LayV w v l) (hr : LayRange l) (hle : LayLe l) (i : Int) (hi : 0 <= i) (hi2 : i <= 1000000) (hk : l.kind = 4) :
  Calls Tryz.prog 92 #[v, .int .i64 i] w fun e w' => e = .returned (.bool (layOK l i)) /\ Below w.heap.size w w' := by
 rw [<- refLay_eq]
 obtain ⟨a1, a2, c1, c2, rfl, r1, r2⟩ := hv.ex
 have q1 := r1.len
 have q2 := r2.len
 have R1 := hid r1
 have R2 := hid r2
 have HLe := hid hle
 generalize hRr : refLay l i = RR
 unfold refLay at hRr
 have HRd := hid hRr
 have HKD := hid hk
 clear hRr hv r1 r2 hr hle hk
 go_enter Tryz.func92, Tryz.ntmps92
 go_upto_region 1 with fail
 have hb0 : Below w.heap.size w (w.alloc (layO l a1 c1 a2 c2 42)) := (Below.refl _ _).alloc (Nat.le_refl _) _
 have hx := Box9.alloc w (.int .i64 l.kind) (.int .i64 l.frm) (.int .i64 l.out) (.int .i64 l.kh) (.int .i64 l.kw) (.int .i64 l.stride) (.int .i64 l.pad) (.slice a1 l.weights.length c1) (.slice a2 l.bias.length c2) 42
 generalize w.alloc (layO l a1 c1 a2 c2 42) = W at *
 have HB := hid hb0
 have HX := hid hx
 clear hx hb0
 obtain ⟨x0, x1, x2, x3, x4, x5, x6, x7, x8, xlt⟩ := HX.out
 have C1 : Hid (∀ W, Calls Tryz.prog 114 #[.int .i64 l.kh, .int .i64 1, .int .i64 64] W fun e w' => e = .returned (.bool (sidB l.kh)) /\ W = w') := fun W => by rw [<- wthn_sid]; exact r12Within _ _ _ W
 have C2 : Hid (∀ W, Calls Tryz.prog 114 #[.int .i64 l.kw, .int .i64 1, .int .i64 64] W fun e w' => e = .returned (.bool (sidB l.kw)) /\ W = w') := fun W => by rw [<- wthn_sid]; exact r12Within _ _ _ W
 have C3 : Hid (∀ W, Calls Tryz.prog 114 #[.int .i64 l.stride, .int .i64 1, .int .i64 64] W fun e w' => e = .returned (.bool (sidB l.stride)) /\ W = w') := fun W => by rw [<- wthn_sid]; exact r12Within _ _ _ W
 go_cut [5] (fun s5 wx => Hid (.bool (kerB l) = s5) /\ Hid (W = wx))
 case first =>
  have HK : Hid (kerB l = (sidB l.kh && (sidB l.kw && sidB l.stride))) := rfl
  cases e1 : sidB l.kh with
  | false =>
   rw [e1] at C1 HK
   clear e1
   go_wp2_with fail
   refine (C1.out _).mono ?_
   rintro e w' ⟨rfl, rfl⟩
   go_wp2_with fail
   go_meet
   exact ⟨by unfold Hid; rw [HK.out]; rfl, rfl⟩
  | true =>
   rw [e1] at C1 HK
   clear e1
   cases e2 : sidB l.kw with
   | false =>
    rw [e2] at C2 HK
    clear e2
    go_wp2_with fail
    refine (C1.out _).mono ?_
    rintro e w' ⟨rfl, rfl⟩
    go_wp2_with fail
    refine (C2.out _).mono ?_
    rintro e w' ⟨rfl, rfl⟩
    go_wp2_with fail
    go_meet
    exact ⟨by unfold Hid; rw [HK.out]; rfl, rfl⟩
   | true =>
    rw [e2] at C2 HK
    clear e2
    generalize sidB l.stride = z at *
    go_wp2_with fail
    refine (C1.out _).mono ?_
    rintro e w' ⟨rfl, rfl⟩
    go_wp2_with fail
    refine (C2.out _).mono ?_
    rintro e w' ⟨rfl, rfl⟩
    go_wp2_with fail
    refine (C3.out _).mono ?_
    rintro e w' ⟨rfl, rfl⟩
    go_wp2_with fail
    go_meet
    exact ⟨by unfold Hid; rw [HK.out]; rfl, rfl⟩
 case rest =>
  obtain ⟨hs, hwx⟩ := hcut
  have e1 := hs.out
  have e2 := hwx.out
  clear hs hwx
  subst e1
  subst e2
  go_upto_region 2 with fail
  go_cut [6] (fun s6 wx => Hid (.bool (noneL l) = s6) /\ Hid (W = wx))
  case first =>
   have HK : Hid (noneL l = (((l.weights.length : Int) == 0) && ((l.bias.length : Int) == 0))) := rfl
   cases f0 : ((l.weights.length : Int) == 0) with
   | false =>
    go_wp2_with fail
    go_meet
    exact ⟨by unfold Hid; rw [HK.out, f0]; rfl, rfl⟩
   | true =>
    cases f1 : ((l.bias.length : Int) == 0) with
    | false =>
     go_wp2_with fail
     go_meet
     exact ⟨by unfold Hid; rw [HK.out, f0, f1]; rfl, rfl⟩
    | true =>
     go_wp2_with fail
     go_meet
     exact ⟨by unfold Hid; rw [HK.out, f0, f1]; rfl, rfl⟩
  case rest =>
   obtain ⟨hs, hwx⟩ := hcut
   have e1 := hs.out
   have e2 := hwx.out
   clear hs hwx
   subst e1
   subst e2
   go_upto_region 3 with fail
   go_cut [7] (fun s7 wx => Hid (.bool (flatB l) = s7) /\ Hid (W = wx))
   case first =>
    have HK : Hid (flatB l = ((l.kh == 0) && ((l.kw == 0) && ((l.stride == 0) && (l.pad == 0))))) := rfl
    cases f0 : (l.kh == 0) with
    | false =>
     go_wp2_with fail
     go_meet
     exact ⟨by unfold Hid; rw [HK.out, f0]; rfl, rfl⟩
    | true =>
     cases f1 : (l.kw == 0) with
     | false =>
      go_wp2_with fail
      go_meet
      exact ⟨by unfold Hid; rw [HK.out, f0, f1]; rfl, rfl⟩
     | true =>
      cases f2 : (l.stride == 0) with
      | false =>
       go_wp2_with fail
       go_meet
       exact ⟨by unfold Hid; rw [HK.out, f0, f1, f2]; rfl, rfl⟩
      | true =>
       cases f3 : (l.pad == 0) with
       | false =>
        go_wp2_with fail
        go_meet
        exact ⟨by unfold Hid; rw [HK.out, f0, f1, f2, f3]; rfl, rfl⟩
       | true =>
        go_wp2_with fail
        go_meet
        exact ⟨by unfold Hid; rw [HK.out, f0, f1, f2, f3]; rfl, rfl⟩
   case rest =>
    obtain ⟨hs, hwx⟩ := hcut
    have e1 := hs.out
    have e2 := hwx.out
    clear hs hwx
    subst e1
    subst e2
    go_upto_region 4 with fail
    obtain ⟨K, hK⟩ : ∃ K, kerB l = K := ⟨_, rfl⟩
    have HKe := hid hK
    rw [hK] at HRd ⊢
    clear hK
    generalize noneL l = NB at *
    generalize flatB l = FB at *
    have CA := hid (r12Canonical c1 (R1.out.below HB.out) HLe.out.wts)
    cases h1 : l.weights.all validR with
    | false =>
     have HF : Hid (RR = false) := by unfold Hid; rw [<- HRd.out, h1]; rfl
     rw [h1] at CA
     clear h1
     go_wp2_with fail
     refine CA.out.mono ?_
     rintro e w1 ⟨rfl, hb1⟩
     have HB1 := hid (HB.out.trans (hb1.mono HB.out.size))
     clear hb1 x0 x1 x2 x3 x4 x5 x6 x7 x8
     go_wp2
     go_ret
     exact ⟨ret_bool HF.out.symm, HB1.out⟩
    | true =>
     rw [h1] at CA
     have HE1 := hid h1
     clear h1
     go_wp2_with fail
     refine CA.out.mono ?_
     rintro e w1 ⟨rfl, hb1⟩
     have HB1 := hid (HB.out.trans (hb1.mono HB.out.size))
     have HX1 := hid (HX.out.below hb1)
     clear hb1 x0 x1 x2 x3 x4 x5 x6 x7 x8 xlt CA
     obtain ⟨x0, x1, x2, x3, x4, x5, x6, x7, x8, xlt⟩ := HX1.out
     have CB := hid (r12Canonical c2 (R2.out.below HB1.out) HLe.out.bias)
     cases h2 : l.bias.all validR with
     | false =>
      have HF : Hid (RR = false) := by unfold Hid; rw [<- HRd.out, HE1.out, h2]; rfl
      rw [h2] at CB
      clear h2
      go_wp2_with fail
      refine CB.out.mono ?_
      rintro e w2 ⟨rfl, hb2⟩
      have HB2 := hid (HB1.out.trans (hb2.mono HB1.out.size))
      clear hb2 x0 x1 x2 x3 x4 x5 x6 x7 x8
      go_wp2
      go_ret
      exact ⟨ret_bool HF.out.symm, HB2.out⟩
     | true =>
      rw [h2] at CB
      have HE2 := hid h2
      clear h2
      go_wp2_with fail
      refine CB.out.mono ?_
      rintro e w2 ⟨rfl, hb2⟩
      have HB2 := hid (HB1.out.trans (hb2.mono HB1.out.size))
      have HX2 := hid (HX1.out.below hb2)
      clear hb2 x0 x1 x2 x3 x4 x5 x6 x7 x8 xlt CB
      obtain ⟨x0, x1, x2, x3, x4, x5, x6, x7, x8, xlt⟩ := HX2.out
      have hk := HKD.out
      have HRk : Hid ((K && ((l.frm == 0) && ((l.pad == 0) && ((l.out == 0) && NB)))) = RR) := by
       have h := HRd.out
       rw [HE1.out, HE2.out, Bool.true_and, Bool.true_and, if_neg (by omega), if_neg (by omega), if_pos (by omega)] at h
       exact h
      have k1 : (l.kind == 1) = false := by rw [beq_eq_false_iff_ne]; omega
      have k2 : (l.kind == 2) = false := by rw [beq_eq_false_iff_ne]; omega
      have k3 : (l.kind == 3) = false := by rw [beq_eq_false_iff_ne]; omega
      have k4 : (l.kind == 4) = true := by rw [beq_iff_eq]; omega
      clear hk
      cases K with
      | false =>
       have HR : Hid (RR = false) := by unfold Hid; rw [<- HRk.out]; rfl
       go_wp2
       go_ret
       exact ⟨ret_bool HR.out.symm, HB2.out⟩
      | true =>
       cases g1 : (l.frm == 0) with
       | false =>
        have HR : Hid (RR = false) := by unfold Hid; rw [<- HRk.out, g1]; rfl
        go_wp2
        go_ret
        exact ⟨ret_bool HR.out.symm, HB2.out⟩
       | true =>
        cases g2 : (l.pad == 0) with
        | false =>
         have HR : Hid (RR = false) := by unfold Hid; rw [<- HRk.out, g1, g2]; rfl
         go_wp2
         go_ret
         exact ⟨ret_bool HR.out.symm, HB2.out⟩
        | true =>
         cases g3 : (l.out == 0) with
         | false =>
          have HR : Hid (RR = false) := by unfold Hid; rw [<- HRk.out, g1, g2, g3]; rfl
          go_wp2
          go_ret
          exact ⟨ret_bool HR.out.symm, HB2.out⟩
         | true =>
          cases NB with
          | false =>
           have HR : Hid (RR = false) := by unfold Hid; rw [<- HRk.out, g1, g2, g3]; rfl
           go_wp2
           go_ret
           exact ⟨ret_bool HR.out.symm, HB2.out⟩
          | true =>
           have HR : Hid (RR = true) := by unfold Hid; rw [<- HRk.out, g1, g2, g3]; rfl
           go_wp2
           go_ret
           exact ⟨ret_bool HR.out.symm, HB2.out⟩
theorem r12Layer {w : World} {v : Value} {l : LayL} (hv : LayV w v l) (hr : LayRange l) (hle : LayLe l) (i : Int) (hi : 0 <= i) (hi2 : i <= 1000000) :
  Calls Tryz.prog 92 #[v, .int .i64 i] w fun e w' => e = .returned (.bool (layOK l i)) /\ Below w.heap.size w w' := by
 have hkind : l.kind = 1 ∨ l.kind = 2 ∨ l.kind = 3 ∨ l.kind = 4 ∨ l.kind = 5 ∨ l.kind = 6 ∨ l.kind = 7 ∨ ¬ (1 <= l.kind /\ l.kind <= 7) := by omega
 rcases hkind with hk | hk | hk | hk | hk | hk | hk | hk
 ·exact r12Layer1 hv hr hle i hi hi2 hk
 ·exact r12Layer2 hv hr hle i hi hi2 hk
 ·exact r12Layer3 hv hr hle i hi hi2 hk
 ·exact r12Layer4 hv hr hle i hi hi2 hk
 ·exact r12Layer5 hv hr hle i hi hi2 hk
 ·exact r12Layer6 hv hr hle i hi hi2 hk
 ·exact r12Layer7 hv hr hle i hi hi2 hk
 ·exact r12Layer0 hv hr hle i hi hi2 hk
theorem r12Valid {w : World} {m : ModL} {a1 a2 : Option Addr} (c1 c2 : Nat) (h1 : Ints w Any a1 m.input) (h2 : LaysAt w a2 m.layers) (hr : ∀ l ∈ m.layers, LayRange l) (hs : ∀ l ∈ m.layers, LayLe l) :
  Calls Tryz.prog 53 #[.agg #[.slice a1 m.input.length c1, .slice a2 m.layers.length c2]] w fun e w' => e = .returned (.bool (validM m)) /\ Below w.heap.size w w' := by
 have q1 := h1.len
 have q2 := h2.len
 have H2 := hid h2
 have HRg := hid hr
 have HSh := hid hs
 have hbA : Below w.heap.size w (w.alloc (.cells #[.slice a1 m.input.length c1, .slice a2 m.layers.length c2] 25)) := (Below.refl _ _).alloc (Nat.le_refl _) _
 have HV := hid (r11Valid c1 (h1.below hbA))
 generalize hR : validM m = R
 have HR := hid hR
 unfold validM at hR
 clear h1 h2 hr hs
 cases e1 : validL m.input with
 | false =>
  rw [e1] at HV hR
  have HF : Hid (R = false) := hR.symm
  clear hR e1
  go_enter Tryz.func53, Tryz.ntmps53
  go_wp2_with fail
  refine HV.out.mono ?_
  rintro e w' ⟨rfl, rfl⟩
  go_wp2
  go_ret
  exact ⟨ret_bool HF.out.symm, hbA⟩
 | true =>
  rw [e1] at HV hR
  clear e1
  by_cases e2 : m.layers.length <= 64
  ·rw [decide_eq_true e2] at hR
   have HL : Hid (laysFrom (m.layers.drop 0) ((0 : Nat) : Int) = R) := hR
   clear hR
   go_enter Tryz.func53, Tryz.ntmps53
   go_wp2_with fail
   refine HV.out.mono ?_
   rintro e w' ⟨rfl, rfl⟩
   have hx := Box2.alloc w (.slice a1 m.input.length c1) (.slice a2 m.layers.length c2) 25
   have HB := hid hbA
   generalize w.alloc (.cells #[.slice a1 m.input.length c1, .slice a2 m.layers.length c2] 25) = W at *
   have HX := hid hx
   obtain ⟨x0, x1, xf, xlt⟩ := hx
   clear hbA
   go_wp2
   clear x0 x1 xf xlt
   go_loopw [3] (fun i wr => ∃ j : Nat, j <= m.layers.length /\ i = .int .i64 (j : Int) /\ Hid (laysFrom (m.layers.drop j) (j : Int) = R) /\ Hid (Below W.heap.size W wr)) (fun i _ => m.layers.length - (intOf i).toNat)
   case atStart => exact ⟨0, Nat.zero_le _, rfl, HL.out, Below.refl _ _⟩
   case round =>
    obtain ⟨j, hj, rfl, HS, HW⟩ := hrel
    obtain ⟨x0, x1, xf, xlt⟩ := HX.out.below HW.out
    by_cases hlt : j < m.layers.length
    ·obtain ⟨bl, ol, l, rfl, hbl, hl, b1, b2, d1, d2, ⟨l0, l1, l2, l3, l4, l5, l6, l7, l8⟩, r1, r2⟩ := (H2.out.below (HB.out.trans (HW.out.mono HB.out.size))).pick hlt
     have hmem := List.mem_of_getElem? hl
     have hdrop : m.layers.drop j = l :: m.layers.drop (j + 1) := by
      rw [List.drop_eq_getElem_cons hlt]
      congr 1
      rw [List.getElem?_eq_getElem hlt] at hl
      exact Option.some.inj hl
     have HStep : Hid ((layOK l (j : Int) && laysFrom (m.layers.drop (j + 1)) ((j + 1 : Nat) : Int)) = R) := by
      have := HS.out
      rw [hdrop] at this
      exact this
     have HC := hid (r12Layer (w := wr) (v := .agg #[.int .i64 l.kind, .int .i64 l.frm, .int .i64 l.out, .int .i64 l.kh, .int .i64 l.kw, .int .i64 l.stride, .int .i64 l.pad, .slice b1 l.weights.length d1, .slice b2 l.bias.length d2]) ⟨b1, b2, d1, d2, rfl, r1, r2⟩ (HRg.out l hmem) (HSh.out l hmem) (j : Int) (by omega) (by omega))
     have p1 := r1.len
     have p2 := r2.len
     clear hdrop hl hmem r1 r2 HS
     go_wp2_with fail
     refine HC.out.mono ?_
     rintro e w2 ⟨rfl, hb2⟩
     have HW2 := hid (HW.out.trans (hb2.mono HW.out.size))
     clear hb2 x0 x1 xf xlt l0 l1 l2 l3 l4 l5 l6 l7 l8 HC
     cases hc : layOK l (j : Int) with
     | false =>
      have HF : Hid (R = false) := by unfold Hid; rw [<- HStep.out, hc]; rfl
      clear hc
      go_wp2
      go_ret
      exact ⟨ret_bool HF.out.symm, HB.out.trans (HW2.out.mono HB.out.size)⟩
     | true =>
      have HS2 : Hid (laysFrom (m.layers.drop (j + 1)) ((j + 1 : Nat) : Int) = R) := by have := HStep.out; rw [hc] at this; exact this
      clear hc
      go_wp2
      go_roundw
      case rel => exact ⟨j + 1, hlt, by go_num, HS2.out, HW2.out⟩
      case measure => simp [intOf]; omega
    ·obtain rfl : j = m.layers.length := by omega
     have HE : Hid (R = true) := by have := HS.out; rw [List.drop_length] at this; exact this.symm
     go_wp2
     go_ret
     exact ⟨ret_bool HE.out.symm, HB.out.trans (HW.out.mono HB.out.size)⟩
  ·rw [decide_eq_false e2] at hR
   have HF : Hid (R = false) := by unfold Hid; rw [<- hR]; rfl
   clear hR
   go_enter Tryz.func53, Tryz.ntmps53
   go_wp2_with fail
   refine HV.out.mono ?_
   rintro e w' ⟨rfl, rfl⟩
   go_wp2
   go_ret
   exact ⟨ret_bool HF.out.symm, hbA⟩
theorem r13valid {w : World} {u : Value} {l : LayL} (hu : LayV w u l) (hr : LayRange l) (hle : LayLe l) (n : Nat) (hn : n <= 1000) :
  Calls Tryz.prog 93 #[u, .int .i64 (n : Int)] w fun e w' => e = .returned (.bool (decide (n + 1 <= 64) && layOK l n)) /\ Below w.heap.size w w' := by
 obtain ⟨b1, b2, d1, d2, rfl, r1, r2⟩ := hu.ex
 have q3 := r1.len
 have q4 := r2.len
 have R1 := hid r1
 have R2 := hid r2
 have HRg := hid hr
 have HLe := hid hle
 generalize hR : (decide (n + 1 <= 64) && layOK l n) = RR
 have HR := hid hR
 clear hu r1 r2 hr hle hR
 go_enter Tryz.func93, Tryz.ntmps93
 go_upto_region 1 with fail
 have hb0 : Below w.heap.size w (w.alloc (layO l b1 d1 b2 d2 42)) := (Below.refl _ _).alloc (Nat.le_refl _) _
 have hx := Box9.alloc w (.int .i64 l.kind) (.int .i64 l.frm) (.int .i64 l.out) (.int .i64 l.kh) (.int .i64 l.kw) (.int .i64 l.stride) (.int .i64 l.pad) (.slice b1 l.weights.length d1) (.slice b2 l.bias.length d2) 42
 generalize w.alloc (layO l b1 d1 b2 d2 42) = W0 at *
 have HB0 := hid hb0
 have HX0 := hid hx
 clear hb0 hx
 go_upto_region 2 with fail
 have hbW : Below W0.heap.size W0 (W0.alloc (.cells #[.int .i64 1] 3)) := (Below.refl _ _).alloc (Nat.le_refl _) _
 have h1 : Ints (W0.alloc (.cells #[.int .i64 1] 3)) Any (some ⟨W0.heap.size, 0, none⟩) [1] := ints1_of ⟨by omega, by omega⟩ (by rw [World.cell?_alloc_at _ _ _ _ rfl]; rfl) (by simp)
 have hmk : MkL (W0.alloc (.cells #[.int .i64 1] 3)) ((W0.alloc (.cells #[.int .i64 1] 3)).alloc (.cells #[.slice (some ⟨W0.heap.size, 0, none⟩) 1 1, .slice none 0 0] 25)) (W0.heap.size + 1) 25 (.slice (some ⟨W0.heap.size, 0, none⟩) 1 1) (.slice none 0 0) (probeC 0) := by
  have e : W0.heap.size + 1 = (W0.alloc (.cells #[.int .i64 1] 3)).heap.size := by simp
  rw [e]
  refine ⟨?_, World.ownsRow_nil _ _ _ _, by simp [Value.ownBlock], Nat.le_refl _, (Below.refl _ _).alloc (Nat.le_refl _) _⟩
  show (Array.push _ _)[_]? = _
  rw [Array.getElem?_push, if_pos rfl]
 have HW0 : Hid ((W0.alloc (.cells #[.int .i64 1] 3)).heap.size = W0.heap.size + 1) := by unfold Hid; simp
 have HMk := hid hmk
 have HB1 := hid (HB0.out.trans (hbW.mono HB0.out.size))
 have HX := hid (HX0.out.below hbW)
 have H1 := hid h1
 generalize (W0.alloc (.cells #[.int .i64 1] 3)).alloc (.cells #[.slice (some ⟨W0.heap.size, 0, none⟩) 1 1, .slice none 0 0] 25) = W1 at *
 generalize W0.alloc (.cells #[.int .i64 1] 3) = W at *
 clear hbW h1 hmk
 go_wp2
 go_loopw [6] (fun i wr => ∃ (j : Nat) (v : Value), j <= n /\ i = .int .i64 (j : Int) /\ Hid (MkL W wr (W0.heap.size + 1) 25 (.slice (some ⟨W0.heap.size, 0, none⟩) 1 1) v (probeC j))) (fun i _ => n - (intOf i).toNat)
 case atStart => exact ⟨0, _, Nat.zero_le _, rfl, HMk.out⟩
 case round =>
  obtain ⟨j, v, hj, rfl, HM⟩ := hrel
  by_cases hlt : j < n
  ·have k1 := HM.out.c1
   have hj2 : j < 1000 := by omega
   go_wp2_with (at_builtin; refine wpList_append_src rfl (.tmp 15) (.tmp 17) 23 23 rfl W.heap.size 42 (.agg #[.int .i64 0, .int .i64 0, .int .i64 0, .int .i64 0, .int .i64 0, .int .i64 0, .int .i64 0, .slice none 0 0, .slice none 0 0]) 9 104 Tryz.underlying23 Tryz.underlying23 Tryz.infoLay rfl (by omega) v j (probeC j).flatten rfl (by have h := HM.out.own.alloc (.cells #[.int .i64 5, .int .i64 0, .int .i64 0, .int .i64 0, .int .i64 0, .int .i64 0, .int .i64 0, .slice none 0 0, .slice none 0 0] 42); rw [probeC_len] at h; exact h) (some ⟨wr.heap.size, 0, none⟩) 1 1 (layC reluL none none 0 0) rfl (srcOK_alloc9 wr (layC reluL none none 0 0) _ rfl (layC_one _ _ _ _ _)) (by omega) (by unfold maxLen; omega) (by have := HM.out.be.size; simp; omega) ?_; intro v' w' hown hg hn2; obtain ⟨av, cv, rfl⟩ := own_form9 hown; have k3 := (HM.out.mid (v' := .slice av (j + 1) cv) (c := layC reluL none none 0 0) hg).2.1; have k4 := (HM.out.mid (v' := .slice av (j + 1) cv) (c := layC reluL none none 0 0) hg).2.2; have HOwn := hid hown; have HG := hid hg; have HN2 := hid hn2; clear hown hg hn2)
   have hst := HM.out.step (c := layC reluL none none 0 0) (by rw [probeC_len]; exact HOwn.out) HG.out HN2.out
   rw [probeC_succ] at hst
   have HSt := hid hst
   clear hst k1 k3 k4
   go_roundw
   case rel => exact ⟨j + 1, _, hlt, by go_num, HSt.out⟩
   case measure => simp [intOf]; omega
  ·obtain rfl : j = n := by omega
   obtain ⟨a0, c0, rfl⟩ := own_form9 HM.out.own
   rw [probeC_len] at HM
   have HXw := hid (HX.out.below HM.out.be)
   obtain ⟨x0, x1, x2, x3, x4, x5, x6, x7, x8, xlt⟩ := HXw.out
   have k1 := HM.out.c1
   clear hlt HMk
   go_wp2_with (at_builtin; refine wpList_append_src rfl (.tmp 21) (.tmp 23) 23 23 rfl W.heap.size 42 (.agg #[.int .i64 0, .int .i64 0, .int .i64 0, .int .i64 0, .int .i64 0, .int .i64 0, .int .i64 0, .slice none 0 0, .slice none 0 0]) 9 104 Tryz.underlying23 Tryz.underlying23 Tryz.infoLay rfl (by omega) (.slice a0 j c0) j (probeC j).flatten rfl (by have h := HM.out.own.alloc (layO l b1 d1 b2 d2 42); rw [probeC_len] at h; exact h) (some ⟨wr.heap.size, 0, none⟩) 1 1 (layC l b1 b2 d1 d2) rfl (srcOK_alloc9 wr (layC l b1 b2 d1 d2) _ rfl (layC_one _ _ _ _ _)) (by omega) (by unfold maxLen; omega) (by have := HM.out.be.size; simp; omega) ?_; intro v' w' hown hg hn2; obtain ⟨av, cv, rfl⟩ := own_form9 hown; have k3 := (HM.out.mid (v' := .slice av (j + 1) cv) (c := layC l b1 b2 d1 d2) hg).2.1; have k4 := (HM.out.mid (v' := .slice av (j + 1) cv) (c := layC l b1 b2 d1 d2) hg).2.2; have k5 : w'.cell? ⟨W0.heap.size + 1, 0, none⟩ = some (.slice (some ⟨W0.heap.size, 0, none⟩) 1 1) := (by have hbx := (HM.out.mid (v' := .slice av (j + 1) cv) (c := layC l b1 b2 d1 d2) hg).1; simp [World.cell?, hbx]); have HOwn := hid hown; have HG := hid hg; have HN2 := hid hn2; clear hown hg hn2)
   have hst := HM.out.step (c := layC l b1 b2 d1 d2) (by rw [probeC_len]; exact HOwn.out) HG.out HN2.out
   have hbe := HB1.out.trans (hst.be.mono HB1.out.size)
   obtain ⟨hrow, h9⟩ := probe_rows (n := j) (l := l) (d1 := d1) (d2 := d2) (R1.out.below hbe) (R2.out.below hbe)
   have hown2 := hst.own
   rw [show (probeC j ++ [layC l b1 b2 d1 d2]).length = j + 1 by rw [List.length_append, probeC_len]; rfl] at hown2
   have hLL : (List.replicate j reluL ++ [l]).length = j + 1 := by simp
   obtain ⟨a9, c9, hv9, hlays⟩ := own_lays (L := List.replicate j reluL ++ [l]) hown2 hLL.symm (by omega) (by rw [List.length_append, probeC_len]; rfl) hrow h9
   have hav : av = a9 := by injection hv9
   rw [<- hav] at hlays
   have HLays := hid hlays
   have HVm := hid (r12Valid (m := ⟨[1], List.replicate j reluL ++ [l]⟩) 1 cv (H1.out.below hst.be) HLays.out (by
     intro x hx
     rcases List.mem_append.1 hx with h | h
     ·rw [List.eq_of_mem_replicate h]; unfold LayRange reluL I64; simp
     ·simp at h; subst h; exact HRg.out) (by
     intro x hx
     rcases List.mem_append.1 hx with h | h
     ·rw [List.eq_of_mem_replicate h]; exact ⟨by simp [reluL], by simp [reluL]⟩
     ·simp at h; subst h; exact HLe.out))
   rw [validM_probe, show validL [1] = true by decide, Bool.true_and, HR.out] at HVm
   simp only [hLL] at HVm
   have HBe := hid hbe
   clear hst hbe hrow h9 hown2 hLL hv9 hlays hav k1 k3 k4 k5 x0 x1 x2 x3 x4 x5 x6 x7 x8 xlt HOwn HG HN2
   generalize w'.setCell ⟨W0.heap.size + 1, 1, none⟩ (.slice av (j + 1) cv) = w2 at *
   refine HVm.out.mono ?_
   rintro e w3 ⟨rfl, hb3⟩
   have HB3 := hid (HBe.out.trans (hb3.mono HBe.out.size))
   clear hb3 HVm
   go_wp2
   go_ret
   exact ⟨rfl, HB3.out⟩
end Go.Proofs.YtoppijdedkdjeaaGreat
