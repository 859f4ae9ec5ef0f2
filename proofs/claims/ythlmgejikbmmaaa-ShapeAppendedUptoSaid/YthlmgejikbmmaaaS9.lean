/-
  Contracts of the functions that the statements reach, in the order in which they are built: KerG, ModA, ModC, ModD.
-/
import Derived.Test.YthlmgejikbmmaaaS8
import Derived.Test.YthlmgejikbmmaaaS4
import Derived.Test.YthlmgejikbmmaaaS7
set_option linter.unusedVariables false
set_option linter.unusedSimpArgs false
set_option linter.constructorNameAsVariable false
set_option linter.deprecated false

/-
  The walk of kernel.bounds: by contract.
-/
namespace Go.Proofs.Ythlmgejikbmmaaa
open Go.RowKit

set_option maxRecDepth 100000 in
set_option maxHeartbeats 3200000 in
theorem kBounds_sizes {w : World} {v : Value} {k : KerL} (hv : KerV w v k) (hs : 0 < k.sizes.length) (ho1 : 0 ≤ k.output) (ho2 : k.output < k.sizes.length)
    (hne : ¬ ((k.lo.length : Int) = k.sizes.getD 0 0 ∧ (k.hi.length : Int) = k.sizes.getD 0 0 ∧ (k.err.length : Int) = k.sizes.getD k.output.toNat 0)) :
    Calls Try.prog 44 #[v] w fun e w' => e = .returned (.bool (boundsL k)) ∧ Below w.heap.size w w' := by
  have hR : boundsL k = false := by unfold boundsL; rw [decide_eq_false hne]; rfl
  obtain ⟨a1, a2, a3, a4, a5, c1, c2, c3, c4, c5, rfl, h1, h2, h3, h4, h5⟩ := hv.ex
  have HR := Lib.hid hR
  obtain ⟨sizes, ops, output, is, os, lo, hi, err⟩ := k
  simp only at *
  obtain ⟨on, rfl⟩ := Int.eq_ofNat_of_zero_le ho1
  have hon : on < sizes.length := by omega
  obtain ⟨b, off, s0, rfl, hc0, hx0, _, hbs, _, _, _⟩ := h1.pick2 hs
  obtain ⟨b', off', s1, he, hc1, hx1, _, _, _, _, _⟩ := h1.pick2 hon
  cases he
  have g0 : sizes.getD 0 0 = s0 := by rw [List.getD_eq_getElem?_getD, hx0]; rfl
  have g1 : sizes.getD (on : Int).toNat 0 = s1 := by rw [Int.toNat_natCast, List.getD_eq_getElem?_getD, hx1]; rfl
  rw [g0, g1] at hne
  rw [Nat.add_zero] at hc0
  have q1 := h1.len
  have q3 := h3.len
  have q4 := h4.len
  have q5 := h5.len
  clear hv hR h1 h2 h3 h4 h5 g0 g1 hx0 hx1
  by_cases n1 : (lo.length : Int) = s0
  · have t1 : ((lo.length : Int) != s0) = false := by rw [n1]; simp
    by_cases n2 : (hi.length : Int) = s0
    · have t2 : ((hi.length : Int) != s0) = false := by rw [n2]; simp
      have n3 : ¬ (err.length : Int) = s1 := fun h => hne ⟨n1, n2, h⟩
      have t3 : ((err.length : Int) != s1) = true := by rw [bne_iff_ne]; exact n3
      clear n1 n2 n3 hne
      go_enter Try.func44, Try.ntmps44
      go_wp2
      go_quiet (fail)
      go_wp2
      go_ret
      exact ⟨ret_bool HR.out.symm, ((Below.refl _ _).alloc (Nat.le_refl _) _).trans ((Below.drewN_refl _ _).mono (by simp))⟩
    · have t2 : ((hi.length : Int) != s0) = true := by rw [bne_iff_ne]; exact n2
      clear n1 n2 hne
      go_enter Try.func44, Try.ntmps44
      go_wp2
      go_quiet (fail)
      go_wp2
      go_ret
      exact ⟨ret_bool HR.out.symm, ((Below.refl _ _).alloc (Nat.le_refl _) _).trans ((Below.drewN_refl _ _).mono (by simp))⟩
  · have t1 : ((lo.length : Int) != s0) = true := by rw [bne_iff_ne]; exact n1
    clear n1 hne
    go_enter Try.func44, Try.ntmps44
    go_wp2
    go_quiet (fail)
    go_wp2
    go_ret
    exact ⟨ret_bool HR.out.symm, ((Below.refl _ _).alloc (Nat.le_refl _) _).trans ((Below.drewN_refl _ _).mono (by simp))⟩

set_option maxRecDepth 100000 in
set_option maxHeartbeats 3200000 in
theorem kBounds_rest {w : World} {v : Value} {k : KerL} (hv : KerV w v k) (hs : 0 < k.sizes.length) (ho1 : 0 ≤ k.output) (ho2 : k.output < k.sizes.length)
    (hS1 : ∀ x ∈ k.lo, x.Short) (hS2 : ∀ x ∈ k.hi, x.Short) (hS3 : ∀ x ∈ k.err, x.Short)
    (hyes : (k.lo.length : Int) = k.sizes.getD 0 0 ∧ (k.hi.length : Int) = k.sizes.getD 0 0 ∧ (k.err.length : Int) = k.sizes.getD k.output.toNat 0) :
    Calls Try.prog 44 #[v] w fun e w' => e = .returned (.bool (boundsL k)) ∧ Below w.heap.size w w' := by
  have hR : boundsL k = ((k.lo.zip k.hi).all (fun p => pairOK p.1 p.2) && k.err.all errOK) := by unfold boundsL; rw [decide_eq_true hyes]; rfl
  obtain ⟨a1, a2, a3, a4, a5, c1, c2, c3, c4, c5, rfl, h1, h2, h3, h4, h5⟩ := hv.ex
  have HR := Lib.hid hR
  obtain ⟨sizes, ops, output, is, os, lo, hi, err⟩ := k
  simp only at *
  obtain ⟨on, rfl⟩ := Int.eq_ofNat_of_zero_le ho1
  have hon : on < sizes.length := by omega
  obtain ⟨b, off, s0, rfl, hc0, hx0, _, hbs, _, _, _⟩ := h1.pick2 hs
  obtain ⟨b', off', s1, he, hc1, hx1, _, _, _, _, _⟩ := h1.pick2 hon
  cases he
  have g0 : sizes.getD 0 0 = s0 := by rw [List.getD_eq_getElem?_getD, hx0]; rfl
  have g1 : sizes.getD (on : Int).toNat 0 = s1 := by rw [Int.toNat_natCast, List.getD_eq_getElem?_getD, hx1]; rfl
  rw [g0, g1] at hyes
  rw [Nat.add_zero] at hc0
  have q1 := h1.len
  have q3 := h3.len
  have q4 := h4.len
  have q5 := h5.len
  obtain ⟨n1, n2, n3⟩ := hyes
  have t1 : ((lo.length : Int) != s0) = false := by rw [n1]; simp
  have t2 : ((hi.length : Int) != s0) = false := by rw [n2]; simp
  have t3 : ((err.length : Int) != s1) = false := by rw [n3]; simp
  have hlen : hi.length = lo.length := by omega
  have HLen := Lib.hid hlen
  have H3 := Lib.hid h3
  have H4 := Lib.hid h4
  have H5 := Lib.hid h5
  have HS1 := Lib.hid hS1
  have HS2 := Lib.hid hS2
  have HS3 := Lib.hid hS3
  clear hv hR h1 h2 h3 h4 h5 g0 g1 hx0 hx1 n1 n2 n3 hlen hS1 hS2 hS3
  go_enter Try.func44, Try.ntmps44
  go_wp2
  go_quiet (fail)
  have hB1 : Below w.heap.size w (w.alloc (.cells #[.slice (some ⟨b, off, none⟩) sizes.length c1, .slice a2 ops.length c2, .int .i64 (on : Int), .int .i64 is, .int .i64 os, .slice a3 lo.length c3, .slice a4 hi.length c4, .slice a5 err.length c5] 45)) := (Below.refl _ _).alloc (Nat.le_refl _) _
  have hbx := Box8.alloc w (.slice (some ⟨b, off, none⟩) sizes.length c1) (.slice a2 ops.length c2) (.int .i64 (on : Int)) (.int .i64 is) (.int .i64 os) (.slice a3 lo.length c3) (.slice a4 hi.length c4) (.slice a5 err.length c5) 45
  have hbd := Below.drewN_refl (w.alloc (.cells #[.slice (some ⟨b, off, none⟩) sizes.length c1, .slice a2 ops.length c2, .int .i64 (on : Int), .int .i64 is, .int .i64 os, .slice a3 lo.length c3, .slice a4 hi.length c4, .slice a5 err.length c5] 45)) nq
  generalize w.alloc (.cells #[.slice (some ⟨b, off, none⟩) sizes.length c1, .slice a2 ops.length c2, .int .i64 (on : Int), .int .i64 is, .int .i64 os, .slice a3 lo.length c3, .slice a4 hi.length c4, .slice a5 err.length c5] 45) = W at *
  have HB1 := Lib.hid hB1
  have HBx := Lib.hid hbx
  generalize W.drewN nq = W2 at *
  obtain ⟨x0, x1, x2, x3, x4, x5, x6, x7, _⟩ := hbx.below hbd
  clear hB1 hbx t1 t2 t3 hc0 hc1
  go_wp2
  clear x0 x1 x2 x3 x4 x5 x6 x7
  go_loopw [39] (fun i wr => ∃ j : Nat, j ≤ lo.length ∧ i = .int .i64 (j : Int) ∧ Hid (((lo.zip hi).take j).all (fun p => pairOK p.1 p.2) = true) ∧ Below W.heap.size W wr) (fun i _ => lo.length - (intOf i).toNat)
  case atStart => exact ⟨0, Nat.zero_le _, rfl, rfl, hbd⟩
  case round =>
    clear hbd
    obtain ⟨j, hj, rfl, HA, hb⟩ := hrel
    obtain ⟨x0, x1, x2, x3, x4, x5, x6, x7, xlt⟩ := HBx.out.below hb
    have hbw := HB1.out.trans (hb.mono HB1.out.size)
    by_cases hlt : j < lo.length
    · obtain ⟨bl, ol, x, an, ad, cn, cd, rfl, hbl, hx, l0, l1, l2, hxv⟩ := (H3.out.below hbw).pick hlt
      obtain ⟨bh, oh, y, bn, bd, dn, dd, rfl, hbh, hy, m0, m1, m2, hyv⟩ := (H4.out.below hbw).pick (k := j) (by rw [HLen.out]; exact hlt)
      have hSx := HS1.out x (List.mem_of_getElem? hx)
      have hSy := HS2.out y (List.mem_of_getElem? hy)
      have HT := Lib.hid (zip_take_succ hx hy)
      have HM := Lib.hid (zip_mem hx hy)
      have z5 := ext_cell x5 xlt
      have z6 := ext_cell x6 xlt
      have zl0 := ext_cell l0 hbl
      have zl1 := ext_cell l1 hbl
      have zl2 := ext_cell l2 hbl
      have zm0 := ext_cell m0 hbh
      have zm1 := ext_cell m1 hbh
      have zm2 := ext_cell m2 hbh
      have HVx := Lib.hid (fun e => rValid (hxv.below (ext_below wr e)) (by have := hSx.1; omega) (by have := hSx.2; omega))
      have HVy := Lib.hid (fun e => rValid (hyv.below (ext_below wr e)) (by have := hSy.1; omega) (by have := hSy.2; omega))
      have HCm := Lib.hid (fun e => rCmp (hxv.below (ext_below wr e)) (hyv.below (ext_below wr e)) (by have := hSx.1; omega) (by have := hSx.2; omega) (by have := hSy.1; omega) (by have := hSy.2; omega))
      have HB := Lib.hid hb
      have HBW := Lib.hid hbw
      have HP : Hid (pairOK x y = (validR x && (validR y && !decide (0 < cmpR x y)))) := rfl
      have hjh : j < hi.length := by rw [HLen.out]; exact hlt
      clear hxv hyv hb hbw hSx hSy hx hy l0 l1 l2 m0 m1 m2
      by_cases vx : validR x = true
      · by_cases vy : validR y = true
        · by_cases vc : 0 < cmpR x y
          · have HV : Hid ((validR x && (validR y && !decide (0 < cmpR x y))) = false) := by unfold Hid; rw [decide_eq_true vc]; simp
            have tc : decide (0 < cmpR x y) = true := decide_eq_true vc
            rw [vx] at HVx
            rw [vy] at HVy
            clear vx vy vc
            go_wp2
            refine wp_region_quiet_ext (by kernel_rfl) (by kernel_rfl) ?_
            repeat (go_big_quiet_step (first | (go_at_call 54; with_reducible exact Calls.ext_of (HVx.out _)) | (go_at_call 54; with_reducible exact Calls.ext_of (HVy.out _)) | (go_at_call 66; exact Calls.ext_of (HCm.out _))))
            refine wpQuiet_nil ?_
            intro _ hw'
            obtain ⟨nq, hw''⟩ := hw'
            subst hw''
            have hE := HB.out.trans ((ext_below wr nq).mono HB.out.size)
            have HEW := Lib.hid (HBW.out.trans ((ext_below wr nq).mono HBW.out.size))
            generalize ext wr nq = w3 at *
            go_wp2
            go_ret
            refine ⟨ret_bool ?_, HEW.out⟩
            rw [HR.out, eq_comm, Bool.and_eq_false_iff]
            left
            rw [← Bool.not_eq_true, List.all_eq_true]
            intro hall
            have := hall _ HM.out
            simp only [HP.out, HV.out, Bool.false_and, Bool.and_false, Bool.false_eq_true] at this
          · have HV : Hid ((validR x && (validR y && !decide (0 < cmpR x y))) = true) := by unfold Hid; rw [decide_eq_false vc, vx, vy]; rfl
            have tc : decide (0 < cmpR x y) = false := decide_eq_false vc
            rw [vx] at HVx
            rw [vy] at HVy
            clear vx vy vc
            go_wp2
            refine wp_region_quiet_ext (by kernel_rfl) (by kernel_rfl) ?_
            repeat (go_big_quiet_step (first | (go_at_call 54; with_reducible exact Calls.ext_of (HVx.out _)) | (go_at_call 54; with_reducible exact Calls.ext_of (HVy.out _)) | (go_at_call 66; exact Calls.ext_of (HCm.out _))))
            refine wpQuiet_nil ?_
            intro _ hw'
            obtain ⟨nq, hw''⟩ := hw'
            subst hw''
            have hE := HB.out.trans ((ext_below wr nq).mono HB.out.size)
            have HEW := Lib.hid (HBW.out.trans ((ext_below wr nq).mono HBW.out.size))
            generalize ext wr nq = w3 at *
            go_wp2
            go_roundw
            case rel => exact ⟨j + 1, hlt, by go_num, by unfold Hid; rw [HT.out, List.all_append, HA.out, List.all_cons, List.all_nil]; simp only [HP.out, HV.out]; rfl, hE⟩
            case measure => simp [intOf]; omega
        · have HV : Hid ((validR x && (validR y && !decide (0 < cmpR x y))) = false) := by unfold Hid; rw [Bool.not_eq_true] at vy; rw [vy]; simp
          rw [Bool.not_eq_true] at vy
          rw [vx] at HVx
          rw [vy] at HVy
          clear vx vy
          go_wp2
          refine wp_region_quiet_ext (by kernel_rfl) (by kernel_rfl) ?_
          repeat (go_big_quiet_step (first | (go_at_call 54; with_reducible exact Calls.ext_of (HVx.out _)) | (go_at_call 54; with_reducible exact Calls.ext_of (HVy.out _)) | (go_at_call 66; exact Calls.ext_of (HCm.out _))))
          refine wpQuiet_nil ?_
          intro _ hw'
          obtain ⟨nq, hw''⟩ := hw'
          subst hw''
          have hE := HB.out.trans ((ext_below wr nq).mono HB.out.size)
          have HEW := Lib.hid (HBW.out.trans ((ext_below wr nq).mono HBW.out.size))
          generalize ext wr nq = w3 at *
          go_wp2
          go_ret
          refine ⟨ret_bool ?_, HEW.out⟩
          rw [HR.out, eq_comm, Bool.and_eq_false_iff]
          left
          rw [← Bool.not_eq_true, List.all_eq_true]
          intro hall
          have := hall _ HM.out
          simp only [HP.out, HV.out, Bool.false_and, Bool.and_false, Bool.false_eq_true] at this
      · have HV : Hid ((validR x && (validR y && !decide (0 < cmpR x y))) = false) := by unfold Hid; rw [Bool.not_eq_true] at vx; rw [vx]; simp
        rw [Bool.not_eq_true] at vx
        rw [vx] at HVx
        clear vx
        go_wp2
        refine wp_region_quiet_ext (by kernel_rfl) (by kernel_rfl) ?_
        repeat (go_big_quiet_step (first | (go_at_call 54; with_reducible exact Calls.ext_of (HVx.out _)) | (go_at_call 54; with_reducible exact Calls.ext_of (HVy.out _)) | (go_at_call 66; exact Calls.ext_of (HCm.out _))))
        refine wpQuiet_nil ?_
        intro _ hw'
        obtain ⟨nq, hw''⟩ := hw'
        subst hw''
        have hE := HB.out.trans ((ext_below wr nq).mono HB.out.size)
        have HEW := Lib.hid (HBW.out.trans ((ext_below wr nq).mono HBW.out.size))
        generalize ext wr nq = w3 at *
        go_wp2
        go_ret
        refine ⟨ret_bool ?_, HEW.out⟩
        rw [HR.out, eq_comm, Bool.and_eq_false_iff]
        left
        rw [← Bool.not_eq_true, List.all_eq_true]
        intro hall
        have := hall _ HM.out
        simp only [HP.out, HV.out, Bool.false_and, Bool.and_false, Bool.false_eq_true] at this
    · obtain rfl : j = lo.length := by omega
      have hz : ((lo.zip hi).take lo.length) = lo.zip hi := List.take_of_length_le (by rw [List.length_zip]; omega)
      have HL : Hid ((lo.zip hi).all (fun p => pairOK p.1 p.2) = true) := by have := HA.out; rwa [hz] at this
      have HWb := Lib.hid hbw
      have hwl := hbw.size
      clear HA hlt hz hb hbw
      go_wp2
      clear x0 x1 x2 x3 x4 x5 x6 x7
      obtain ⟨wo, hwo⟩ : ∃ wo : World, wo = wr := ⟨_, rfl⟩
      subst hwo
      go_loopw [76] (fun i wr => ∃ j : Nat, j ≤ err.length ∧ i = .int .i64 (j : Int) ∧ Hid ((err.take j).all errOK = true) ∧ Below wo.heap.size wo wr) (fun i _ => err.length - (intOf i).toNat)
      case atStart => exact ⟨0, Nat.zero_le _, rfl, rfl, Below.refl _ _⟩
      case round =>
        obtain ⟨j, hj, rfl, HA, hb⟩ := hrel
        have hbw := HWb.out.trans (hb.mono hwl)
        by_cases hlt : j < err.length
        · obtain ⟨bl, ol, x, an, ad, cn, cd, rfl, hbl, hx, l0, l1, l2, hxv⟩ := (H5.out.below hbw).pick hlt
          have hSx := HS3.out x (List.mem_of_getElem? hx)
          have HT := Lib.hid (take_succ_at hx)
          have HM := Lib.hid (List.mem_of_getElem? hx)
          have hbA : Below wr.heap.size wr (wr.alloc (.cells #[.bool x.neg, .slice an x.num.length cn, .slice ad x.den.length cd] 78)) := (Below.refl _ _).alloc (Nat.le_refl _) _
          have HVx := Lib.hid (rValid (hxv.below hbA) (by have := hSx.1; omega) (by have := hSx.2; omega))
          have hbx3 := Box3.alloc wr (.bool x.neg) (.slice an x.num.length cn) (.slice ad x.den.length cd) 78
          have HBA := Lib.hid (hb.trans (hbA.mono hb.size))
          have HBX := Lib.hid hbx3
          have HP : Hid (errOK x = (validR x && !x.neg)) := rfl
          have hsz := hb.size
          have HSz := Lib.hid hsz
          clear hb hbw hSx hx hxv hbA hbx3 hsz
          by_cases vx : validR x = true
          · rw [vx] at HVx
            by_cases vn : x.neg = true
            · have HV : Hid (errOK x = false) := by unfold Hid; rw [HP.out, vn]; simp
              rw [vn] at l0 HVx HBX HBA
              clear vx vn
              go_wp2_with fail
              refine HVx.out.mono ?_
              rintro e w4 ⟨rfl, hb4⟩
              obtain ⟨r0, r1, r2, _, _⟩ := HBX.out.below hb4
              have HE := Lib.hid ((HBA.out.trans (hb4.mono HBA.out.size)))
              clear hb4
              go_wp2
              go_ret
              refine ⟨ret_bool ?_, HWb.out.trans (HE.out.mono hwl)⟩
              rw [HR.out, eq_comm, Bool.and_eq_false_iff]
              right
              rw [← Bool.not_eq_true, List.all_eq_true]
              intro hall
              have := hall _ HM.out
              rw [HV.out] at this
              cases this
            · rw [Bool.not_eq_true] at vn
              have HV : Hid (errOK x = true) := by unfold Hid; rw [HP.out, vn, vx]; rfl
              rw [vn] at l0 HVx HBX HBA
              clear vx vn
              go_wp2_with fail
              refine HVx.out.mono ?_
              rintro e w4 ⟨rfl, hb4⟩
              obtain ⟨r0, r1, r2, _, _⟩ := HBX.out.below hb4
              have HE := Lib.hid ((HBA.out.trans (hb4.mono HBA.out.size)))
              clear hb4
              go_wp2
              go_roundw
              case rel => exact ⟨j + 1, hlt, by go_num, by unfold Hid; rw [HT.out, List.all_append, HA.out, List.all_cons, List.all_nil, HV.out]; rfl, HE.out⟩
              case measure => simp [intOf]; omega
          · rw [Bool.not_eq_true] at vx
            have HV : Hid (errOK x = false) := by unfold Hid; rw [HP.out, vx]; rfl
            rw [vx] at HVx
            clear vx
            go_wp2_with fail
            refine HVx.out.mono ?_
            rintro e w4 ⟨rfl, hb4⟩
            have HE := Lib.hid ((HBA.out.trans (hb4.mono HBA.out.size)))
            clear hb4
            go_wp2
            go_ret
            refine ⟨ret_bool ?_, HWb.out.trans (HE.out.mono hwl)⟩
            rw [HR.out, eq_comm, Bool.and_eq_false_iff]
            right
            rw [← Bool.not_eq_true, List.all_eq_true]
            intro hall
            have := hall _ HM.out
            rw [HV.out] at this
            cases this
        · obtain rfl : j = err.length := by omega
          have HE : Hid (err.all errOK = true) := by have := HA.out; rwa [List.take_length] at this
          have HBW := Lib.hid hbw
          clear hb hbw HA hlt
          go_wp2
          go_ret
          exact ⟨ret_bool (by rw [HR.out, HL.out, HE.out]; rfl), HBW.out⟩

theorem kBounds {w : World} {v : Value} {k : KerL} (hv : KerV w v k) (hs : 0 < k.sizes.length) (ho1 : 0 ≤ k.output) (ho2 : k.output < k.sizes.length)
    (hS1 : ∀ x ∈ k.lo, x.Short) (hS2 : ∀ x ∈ k.hi, x.Short) (hS3 : ∀ x ∈ k.err, x.Short) :
    Calls Try.prog 44 #[v] w fun e w' => e = .returned (.bool (boundsL k)) ∧ Below w.heap.size w w' := by
  by_cases h : (k.lo.length : Int) = k.sizes.getD 0 0 ∧ (k.hi.length : Int) = k.sizes.getD 0 0 ∧ (k.err.length : Int) = k.sizes.getD k.output.toNat 0
  · exact kBounds_rest hv hs ho1 ho2 hS1 hS2 hS3 h
  · exact kBounds_sizes hv hs ho1 ho2 h

end Go.Proofs.Ythlmgejikbmmaaa

/-
  Models and layers: plain values, what makes them valid, and how they lie in memory. No function in sight.
-/
namespace Go.Proofs.Ythlmgejikbmmaaa
open Go.RowKit

/-- A layer. -/
structure LayL where
  kind : Int
  frm : Int
  out : Int
  kh : Int
  kw : Int
  stride : Int
  pad : Int
  weights : List RatL
  bias : List RatL
/-- A model. -/
structure ModL where
  input : List Int
  layers : List LayL

/-- A layer as a value. -/
structure LayV (w : World) (v : Value) (l : LayL) : Prop where
  ex : ∃ (a1 a2 : Option Addr) (c1 c2 : Nat), v = .agg #[.int .i64 l.kind, .int .i64 l.frm, .int .i64 l.out, .int .i64 l.kh, .int .i64 l.kw, .int .i64 l.stride, .int .i64 l.pad, .slice a1 l.weights.length c1, .slice a2 l.bias.length c2] ∧ RatsAt w a1 l.weights ∧ RatsAt w a2 l.bias
theorem LayV.below {w w' : World} {v : Value} {l : LayL} (h : LayV w v l) (hb : Below w.heap.size w w') : LayV w' v l := by
  obtain ⟨a1, a2, c1, c2, e, h1, h2⟩ := h.ex
  exact ⟨a1, a2, c1, c2, e, h1.below hb, h2.below hb⟩

/-- The cells of a layer at place o of block b. -/
def LayAt (w : World) (b o : Nat) (l : LayL) : Prop := ∃ (a1 a2 : Option Addr) (c1 c2 : Nat),
  (w.cell? ⟨b, o, none⟩ = some (.int .i64 l.kind) ∧ w.cell? ⟨b, o + 1, none⟩ = some (.int .i64 l.frm) ∧ w.cell? ⟨b, o + 2, none⟩ = some (.int .i64 l.out) ∧ w.cell? ⟨b, o + 3, none⟩ = some (.int .i64 l.kh) ∧
    w.cell? ⟨b, o + 4, none⟩ = some (.int .i64 l.kw) ∧ w.cell? ⟨b, o + 5, none⟩ = some (.int .i64 l.stride) ∧ w.cell? ⟨b, o + 6, none⟩ = some (.int .i64 l.pad) ∧ w.cell? ⟨b, o + 7, none⟩ = some (.slice a1 l.weights.length c1) ∧ w.cell? ⟨b, o + 8, none⟩ = some (.slice a2 l.bias.length c2)) ∧
  RatsAt w a1 l.weights ∧ RatsAt w a2 l.bias
theorem LayAt.below {w w' : World} {b o : Nat} {l : LayL} (h : LayAt w b o l) (hl : b < w.heap.size) (hb : Below w.heap.size w w') : LayAt w' b o l := by
  obtain ⟨a1, a2, c1, c2, ⟨h0, h1, h2, h3, h4, h5, h6, h7, h8⟩, k1, k2⟩ := h
  exact ⟨a1, a2, c1, c2, ⟨(hb.cell hl).trans h0, (hb.cell hl).trans h1, (hb.cell hl).trans h2, (hb.cell hl).trans h3, (hb.cell hl).trans h4, (hb.cell hl).trans h5, (hb.cell hl).trans h6, (hb.cell hl).trans h7, (hb.cell hl).trans h8⟩, k1.below hb, k2.below hb⟩

/-- The slice at a reads as the layers L. -/
structure LaysAt (w : World) (a : Option Addr) (L : List LayL) : Prop where
  len : L.length ≤ 9223372036854775807
  row : L = [] ∨ ∃ b off, a = some ⟨b, off, none⟩ ∧ b < w.heap.size ∧ ∀ (j : Nat) (x : LayL), L[j]? = some x → LayAt w b (off + j * 9) x
theorem LaysAt.below {w w' : World} {a : Option Addr} {L : List LayL} (h : LaysAt w a L) (hb : Below w.heap.size w w') : LaysAt w' a L := by
  refine ⟨h.len, h.row.imp id ?_⟩
  rintro ⟨b, off, rfl, hs, hc⟩
  exact ⟨b, off, rfl, Nat.lt_of_lt_of_le hs hb.size, fun j x hj => (hc j x hj).below hs hb⟩
theorem LaysAt.pick {w : World} {a : Option Addr} {L : List LayL} (h : LaysAt w a L) {k : Nat} (hk : k < L.length) :
    ∃ b off x, a = some ⟨b, off, none⟩ ∧ b < w.heap.size ∧ L[k]? = some x ∧ LayAt w b (off + k * 9) x := by
  rcases h.row with rfl | ⟨b, off, rfl, hb, hc⟩
  · simp at hk
  · have hd : L[k]? = some L[k] := by simp [hk]
    exact ⟨b, off, L[k], rfl, hb, hd, hc k _ hd⟩
theorem LaysAt.nil (w : World) (a : Option Addr) : LaysAt w a [] := ⟨by simp, .inl rfl⟩
/-- The first layers. -/
theorem LaysAt.take {w : World} {a : Option Addr} {L : List LayL} (h : LaysAt w a L) (n : Nat) : LaysAt w a (L.take n) := by
  refine ⟨by have := h.len; rw [List.length_take]; omega, ?_⟩
  rcases h.row with rfl | ⟨b, off, rfl, hb, hc⟩
  · left; simp
  · refine .inr ⟨b, off, rfl, hb, fun j x hj => hc j x ?_⟩
    rw [List.getElem?_take] at hj
    split at hj
    · exact hj
    · cases hj

/-- A model as a value. -/
structure ModV (w : World) (v : Value) (m : ModL) : Prop where
  ex : ∃ (a1 a2 : Option Addr) (c1 c2 : Nat), v = .agg #[.slice a1 m.input.length c1, .slice a2 m.layers.length c2] ∧ Ints w Any a1 m.input ∧ LaysAt w a2 m.layers
theorem ModV.below {w w' : World} {v : Value} {m : ModL} (h : ModV w v m) (hb : Below w.heap.size w w') : ModV w' v m := by
  obtain ⟨a1, a2, c1, c2, e, h1, h2⟩ := h.ex
  exact ⟨a1, a2, c1, c2, e, h1.below hb, h2.below hb⟩

/-- A struct of nine cells in block g. -/
structure Box9 (w : World) (g : Nat) (p0 p1 p2 p3 p4 p5 p6 p7 p8 : Value) : Prop where
  c0 : w.cell? ⟨g, 0, none⟩ = some p0
  c1 : w.cell? ⟨g, 1, none⟩ = some p1
  c2 : w.cell? ⟨g, 2, none⟩ = some p2
  c3 : w.cell? ⟨g, 3, none⟩ = some p3
  c4 : w.cell? ⟨g, 4, none⟩ = some p4
  c5 : w.cell? ⟨g, 5, none⟩ = some p5
  c6 : w.cell? ⟨g, 6, none⟩ = some p6
  c7 : w.cell? ⟨g, 7, none⟩ = some p7
  c8 : w.cell? ⟨g, 8, none⟩ = some p8
  lt : g < w.heap.size
theorem Box9.below {w w' : World} {g : Nat} {p0 p1 p2 p3 p4 p5 p6 p7 p8 : Value} (h : Box9 w g p0 p1 p2 p3 p4 p5 p6 p7 p8) (hb : Below w.heap.size w w') : Box9 w' g p0 p1 p2 p3 p4 p5 p6 p7 p8 :=
  ⟨(hb.cell h.lt).trans h.c0, (hb.cell h.lt).trans h.c1, (hb.cell h.lt).trans h.c2, (hb.cell h.lt).trans h.c3, (hb.cell h.lt).trans h.c4, (hb.cell h.lt).trans h.c5, (hb.cell h.lt).trans h.c6, (hb.cell h.lt).trans h.c7, (hb.cell h.lt).trans h.c8, Nat.lt_of_lt_of_le h.lt hb.size⟩
theorem Box9.alloc (w : World) (p0 p1 p2 p3 p4 p5 p6 p7 p8 : Value) (T : Nat) : Box9 (w.alloc (.cells #[p0, p1, p2, p3, p4, p5, p6, p7, p8] T)) w.heap.size p0 p1 p2 p3 p4 p5 p6 p7 p8 := by
  refine ⟨?_, ?_, ?_, ?_, ?_, ?_, ?_, ?_, ?_, by simp⟩ <;> (rw [World.cell?_alloc_at _ _ _ _ rfl]; rfl)

/-- Tests of a layer's fields. -/
def sidB (n : Int) : Bool := decide (1 ≤ n) && decide (n ≤ 64)
def kerB (l : LayL) : Bool := sidB l.kh && (sidB l.kw && sidB l.stride)
def outB (l : LayL) : Bool := decide (1 ≤ l.out) && decide (l.out ≤ 16384)
def wgtB (l : LayL) (n : Int) : Bool := decide ((l.bias.length : Int) = l.out) && (decide (0 < l.weights.length) && (decide (l.weights.length ≤ 16384) && decide ((l.weights.length : Int) % n = 0)))
def noneB (l : LayL) : Bool := decide (l.weights = []) && decide (l.bias = [])
/-- The condition of a layer's kind, the numbers apart. -/
def condL (l : LayL) (i : Int) : Bool :=
  if l.kind = 1 then outB l && (wgtB l l.out && decide (l.frm = 0 ∧ l.kh = 0 ∧ l.kw = 0 ∧ l.stride = 0 ∧ l.pad = 0))
  else if l.kind = 2 then outB l && (kerB l && (decide (0 ≤ l.pad) && (decide (l.pad < l.kh) && (decide (l.pad < l.kw) && (wgtB l (l.out * l.kh * l.kw) && decide (l.frm = 0))))))
  else if l.kind = 3 ∨ l.kind = 4 then kerB l && (decide (l.frm = 0 ∧ l.out = 0 ∧ l.pad = 0) && noneB l)
  else if l.kind = 5 ∨ l.kind = 6 then decide (l.frm = 0 ∧ l.out = 0 ∧ l.kh = 0 ∧ l.kw = 0 ∧ l.stride = 0 ∧ l.pad = 0) && noneB l
  else if l.kind = 7 then decide (-1 ≤ l.frm) && (decide (l.frm < i) && (decide (l.out = 0 ∧ l.kh = 0 ∧ l.kw = 0 ∧ l.stride = 0 ∧ l.pad = 0) && noneB l))
  else false
def numsB (l : LayL) : Bool := l.weights.all validR && l.bias.all validR
def layOK (l : LayL) (i : Int) : Bool := condL l i && numsB l
def laysFrom : List LayL → Int → Bool
  | [], _ => true
  | l :: r, i => layOK l i && laysFrom r (i + 1)
def validM (m : ModL) : Bool := validL m.input && (decide (m.layers.length ≤ 64) && laysFrom m.layers 0)

/-- The plain rectifier. -/
def reluL : LayL := ⟨5, 0, 0, 0, 0, 0, 0, [], []⟩
theorem layOK_relu (i : Int) : layOK reluL i = true := by
  simp [layOK, condL, reluL, numsB, noneB]
theorem laysFrom_append (A B : List LayL) (i : Int) : laysFrom (A ++ B) i = (laysFrom A i && laysFrom B (i + A.length)) := by
  induction A generalizing i with
  | nil => simp [laysFrom]
  | cons a r ih =>
    show (layOK a i && laysFrom (r ++ B) (i + 1)) = ((layOK a i && laysFrom r (i + 1)) && laysFrom B (i + ((r.length + 1 : Nat) : Int)))
    have e : i + 1 + (r.length : Int) = i + ((r.length + 1 : Nat) : Int) := by omega
    rw [ih, Bool.and_assoc, e]
theorem laysFrom_relu (n : Nat) (i : Int) : laysFrom (List.replicate n reluL) i = true := by
  induction n generalizing i with
  | zero => rfl
  | succ n ih =>
    rw [List.replicate_succ]
    show (layOK reluL i && laysFrom (List.replicate n reluL) (i + 1)) = true
    rw [layOK_relu, ih]; rfl
/-- A model of rectifiers and one layer behind them. -/
theorem validM_probe (input : List Int) (n : Nat) (l : LayL) : validM ⟨input, List.replicate n reluL ++ [l]⟩ = (validL input && (decide (n + 1 ≤ 64) && layOK l n)) := by
  unfold validM
  simp only [laysFrom_append, laysFrom_relu, List.length_append, List.length_replicate, List.length_cons, List.length_nil, laysFrom, Bool.and_true, Bool.true_and, Int.zero_add, Nat.zero_add]
theorem laysFrom_at {L : List LayL} {i : Int} {j : Nat} {l : LayL} (h : laysFrom L i = true) (hj : L[j]? = some l) : layOK l (i + j) = true := by
  induction L generalizing i j with
  | nil => simp at hj
  | cons a r ih =>
    unfold laysFrom at h
    rw [Bool.and_eq_true] at h
    cases j with
    | zero => simp at hj; subst hj; simpa using h.1
    | succ j =>
      have := ih h.2 (j := j) (by simpa using hj)
      rw [show i + ((j + 1 : Nat) : Int) = i + 1 + (j : Int) by omega]
      exact this
theorem laysFrom_take {L : List LayL} {i : Int} (n : Nat) (h : laysFrom L i = true) : laysFrom (L.take n) i = true := by
  have := laysFrom_append (L.take n) (L.drop n) i
  rw [List.take_append_drop, h] at this
  have := this.symm
  rw [Bool.and_eq_true] at this
  exact this.1
theorem validM_at {m : ModL} (h : validM m = true) : validL m.input = true ∧ m.layers.length ≤ 64 ∧ ∀ (j : Nat) (l : LayL), m.layers[j]? = some l → layOK l j = true := by
  unfold validM at h
  simp only [Bool.and_eq_true, decide_eq_true_eq] at h
  refine ⟨h.1, h.2.1, fun j l hj => ?_⟩
  have := laysFrom_at h.2.2 hj
  simpa using this

/-- The shape that a layer gets. -/
def currL (input : List Int) (shapes : List (List Int)) : List Int := shapes.getLast?.getD input
def winsL (s : List Int) (l : LayL) : Int × Int × Int := (windowsL s l.kh l.kw l.stride l.pad).2
/-- The shape that a layer has, and whether it fits. -/
def rawL (input : List Int) (shapes : List (List Int)) (l : LayL) : List Int × Bool :=
  if l.kind = 1 then ([l.out], decide ((l.weights.length : Int) = l.out * sizeL (currL input shapes)))
  else if l.kind = 2 then ([l.out, (winsL (currL input shapes) l).1, (winsL (currL input shapes) l).2.1], decide ((winsL (currL input shapes) l).2.2 = 0) && decide ((l.weights.length : Int) = l.out * (currL input shapes).getD 0 0 * l.kh * l.kw))
  else if l.kind = 3 ∨ l.kind = 4 then ([(currL input shapes).getD 0 0, (winsL (currL input shapes) l).1, (winsL (currL input shapes) l).2.1], decide ((winsL (currL input shapes) l).2.2 = 0))
  else if l.kind = 6 then ([sizeL (currL input shapes)], true)
  else if l.kind = 7 then (currL input shapes, sameL (if 0 ≤ l.frm then shapes.getD l.frm.toNat [] else input) (currL input shapes))
  else (currL input shapes, true)
/-- The shape of the output of a layer, or an error. -/
def outSL (input : List Int) (shapes : List (List Int)) (l : LayL) : List Int × Int :=
  if (validL input && (decide (shapes.length + 1 ≤ 64) && layOK l shapes.length)) && shapes.all validL then
    (if (rawL input shapes l).2 && validL (rawL input shapes l).1 then ((rawL input shapes l).1, 0) else ([], 7))
  else ([], 1)
/-- The shapes of the outputs of the layers behind the first ones; where it stops, and the error. -/
def shapesFrom (input : List Int) : List (List Int) → List LayL → List (List Int) × Int × Int
  | S, [] => (S, 0, 0)
  | S, l :: r => if (outSL input S l).2 = 0 then shapesFrom input (S ++ [(outSL input S l).1]) r else ([], S.length, (outSL input S l).2)
def shapesL (m : ModL) : List (List Int) × Int × Int := if validM m then shapesFrom m.input [] m.layers else ([], 0, 1)

end Go.Proofs.Ythlmgejikbmmaaa

/-
  Lists of numbers compared by their fields (package model, package slices): by contract.
-/
namespace Go.Proofs.Ythlmgejikbmmaaa
open Go.RowKit

set_option maxHeartbeats 400000 in
theorem mSide (n : Int) (w : World) : Calls Try.prog 110 #[.int .i64 n] w fun e w' => e = .returned (.bool (sidB n)) ∧ w = w' := by
  by_cases h1 : 1 ≤ n
  · by_cases h2 : n ≤ 64
    · have HS := Lib.hid (show sidB n = true by simp [sidB, h1, h2])
      go_enter Try.func110, Try.ntmps110
      go_wp2
      go_ret
      exact ⟨ret_bool HS.out.symm, rfl⟩
    · have HS := Lib.hid (show sidB n = false by simp [sidB, h2])
      go_enter Try.func110, Try.ntmps110
      go_wp2
      go_ret
      exact ⟨ret_bool HS.out.symm, rfl⟩
  · have HS := Lib.hid (show sidB n = false by simp [sidB, h1])
    go_enter Try.func110, Try.ntmps110
    go_wp2
    go_ret
    exact ⟨ret_bool HS.out.symm, rfl⟩

set_option maxHeartbeats 1600000 in
theorem mEqNat {w : World} {a b : Option Addr} {l m : List Nat} (c d : Nat) (h : U32s w a l) (g : U32s w b m) :
    Calls Try.prog 134 #[.slice a l.length c, .slice b m.length d] w fun e w' => e = .returned (.bool (decide (l = m))) ∧ Below w.heap.size w w' := by
  have hl := h.len
  have hm := g.len
  have HA := Lib.hid h
  have HB := Lib.hid g
  have HBn := Lib.hid (fun n => Below.drewN_refl w n)
  clear h g
  go_enter Try.func134, Try.ntmps134
  by_cases he : l.length = m.length
  · have HE := Lib.hid he
    have hlb : decide (¬ (l.length : Int) = (m.length : Int)) = false := by simp; omega
    have hlc : ((l.length : Int) == (m.length : Int)) = true := by simp; omega
    have hge1 : l.length ≤ m.length := by omega
    have hge2 : m.length ≤ l.length := by omega
    go_wp2
    go_loopw [5, 13] (fun _ i wr => ∃ j : Nat, j ≤ l.length ∧ i = .int .i64 (j : Int) ∧ Hid (l.take j = m.take j) ∧ Hid (∃ n, wr = w.drewN n)) (fun _ i _ => l.length - (intOf i).toNat)
    case atStart => exact ⟨0, Nat.zero_le _, rfl, by simp [Hid], 0, rfl⟩
    case round =>
      obtain ⟨j, hj, rfl, HT, HN⟩ := hrel
      obtain ⟨nd, rfl⟩ := HN.out
      by_cases hlt : j < l.length
      · have hltm : j < m.length := by omega
        obtain ⟨p1, o1, rfl, _, cA⟩ := HA.out.pick hlt
        obtain ⟨p2, o2, rfl, _, cB⟩ := HB.out.pick hltm
        have TA := Lib.hid (take_succ_at (at_dig hlt))
        have TB := Lib.hid (take_succ_at (at_dig hltm))
        have GA := Lib.hid (at_dig hlt)
        have GB := Lib.hid (at_dig hltm)
        generalize dig l j = x at *
        generalize dig m j = y at *
        by_cases hxy : x = y
        · subst hxy
          go_wp2
          go_quiet (fail)
          go_wp2
          go_roundw
          case rel => exact ⟨j + 1, hlt, by go_num, by unfold Hid; rw [TA.out, TB.out, HT.out], _, rfl⟩
          case measure => simp [intOf]; omega
        · have hne : Hid (decide (l = m) = false) := by
            unfold Hid
            rw [decide_eq_false_iff_not]
            rintro rfl
            have h1 := GA.out.symm.trans GB.out
            cases h1
            exact hxy rfl
          have hxb : ((x : Int) == (y : Int)) = false := by rw [beq_eq_false_iff_ne]; omega
          go_wp2
          go_quiet (fail)
          go_wp2
          go_ret
          exact ⟨by rw [hne.out]; rfl, by rw [World.drewN_drewN]; exact HBn.out _⟩
      · obtain rfl : j = l.length := by omega
        have he2 : Hid (decide (l = m) = true) := by
          have h1 := HT.out
          rw [List.take_length, HE.out, List.take_length] at h1
          unfold Hid; simp [h1]
        go_wp2
        go_ret
        exact ⟨by rw [he2.out]; rfl, HBn.out _⟩
  · have hne : Hid (decide (l = m) = false) := by
      unfold Hid
      rw [decide_eq_false_iff_not]
      rintro rfl
      exact he rfl
    go_wp2
    go_ret
    exact ⟨by rw [hne.out]; rfl, Below.refl _ _⟩

def ratB (x y : RatL) : Bool := (x.neg == y.neg) && (decide (x.num = y.num) && decide (x.den = y.den))
theorem ratB_eq (x y : RatL) : ratB x y = decide (x = y) := by
  unfold ratB
  rw [Bool.eq_iff_iff]
  simp only [Bool.and_eq_true, beq_iff_eq, decide_eq_true_eq]
  constructor
  · rintro ⟨h1, h2, h3⟩
    cases x; cases y
    simp only at h1 h2 h3
    rw [h1, h2, h3]
  · rintro rfl
    exact ⟨rfl, rfl, rfl⟩

set_option maxRecDepth 100000 in
set_option maxHeartbeats 1600000 in
theorem mRatEq {w : World} {v u : Value} {x y : RatL} (hv : RatV w v x) (hu : RatV w u y) :
    Calls Try.prog 133 #[v, u] w fun e w' => e = .returned (.bool (decide (x = y))) ∧ Below w.heap.size w w' := by
  rw [← ratB_eq]
  obtain ⟨an, ad, cn, cd, rfl, a2, a3, a4, a5⟩ := hv.ex
  obtain ⟨bn, bd, dn, dd, rfl, b2, b3, b4, b5⟩ := hu.ex
  have q1 := a4.len
  have q2 := a5.len
  have q3 := b4.len
  have q4 := b5.len
  have H4 := Lib.hid a4
  have H5 := Lib.hid a5
  have G4 := Lib.hid b4
  have G5 := Lib.hid b5
  clear hv hu a4 a5 b4 b5
  go_enter Try.func133, Try.ntmps133
  go_upto_region 1 with fail
  have hbA : Below w.heap.size w (w.alloc (.cells #[.bool x.neg, .slice an x.num.length cn, .slice ad x.den.length cd] 78)) := (Below.refl _ _).alloc (Nat.le_refl _) _
  have hx := Box3.alloc w (.bool x.neg) (.slice an x.num.length cn) (.slice ad x.den.length cd) 78
  generalize hW : w.alloc (.cells #[.bool x.neg, .slice an x.num.length cn, .slice ad x.den.length cd] 78) = W at *
  have hsz : W.heap.size = w.heap.size + 1 := by rw [← hW]; simp
  have hbB : Below W.heap.size W (W.alloc (.cells #[.bool y.neg, .slice bn y.num.length dn, .slice bd y.den.length dd] 78)) := (Below.refl _ _).alloc (Nat.le_refl _) _
  have hy := Box3.alloc W (.bool y.neg) (.slice bn y.num.length dn) (.slice bd y.den.length dd) 78
  rw [hsz] at hy
  generalize W.alloc (.cells #[.bool y.neg, .slice bn y.num.length dn, .slice bd y.den.length dd] 78) = V at *
  have HX := Lib.hid (hx.below hbB)
  have HY := Lib.hid hy
  have HB := Lib.hid (hbA.trans (hbB.mono hbA.size))
  clear hx hy hbA hbB hW hsz
  obtain ⟨x0, x1, x2, _, xlt⟩ := HX.out
  obtain ⟨y0, y1, y2, _, ylt⟩ := HY.out
  cases e1 : (x.neg == y.neg) with
  | false =>
    have HR : Hid (ratB x y = false) := by unfold Hid ratB; rw [e1]; rfl
    go_wp2
    go_ret
    exact ⟨ret_bool HR.out.symm, HB.out⟩
  | true =>
    have HC := Lib.hid (mEqNat cn dn (H4.out.below HB.out) (G4.out.below HB.out))
    cases e2 : decide (x.num = y.num) with
    | false =>
      have HR : Hid (ratB x y = false) := by unfold Hid ratB; rw [e1, e2]; rfl
      rw [e2] at HC
      clear e2
      go_wp2_with fail
      refine HC.out.mono ?_
      rintro e w1 ⟨rfl, hb1⟩
      have HB1 := Lib.hid (HB.out.trans (hb1.mono HB.out.size))
      clear hb1 x0 x1 x2 y0 y1 y2
      go_wp2
      go_ret
      exact ⟨ret_bool HR.out.symm, HB1.out⟩
    | true =>
      have HR : Hid (ratB x y = decide (x.den = y.den)) := by unfold Hid ratB; rw [e1, e2]; rfl
      rw [e2] at HC
      clear e2
      go_wp2_with fail
      refine HC.out.mono ?_
      rintro e w1 ⟨rfl, hb1⟩
      have HB1 := Lib.hid (HB.out.trans (hb1.mono HB.out.size))
      obtain ⟨z0, z1, z2, _, zlt⟩ := HX.out.below hb1
      obtain ⟨t0, t1, t2, _, tlt⟩ := HY.out.below hb1
      have HC2 := Lib.hid (mEqNat cd dd (H5.out.below HB1.out) (G5.out.below HB1.out))
      generalize decide (x.den = y.den) = R at *
      clear hb1 x0 x1 x2 y0 y1 y2
      go_wp2_with fail
      refine HC2.out.mono ?_
      rintro e w2 ⟨rfl, hb2⟩
      have HB2 := Lib.hid (HB1.out.trans (hb2.mono HB1.out.size))
      clear hb2 z0 z1 z2 t0 t1 t2
      go_wp2
      go_ret
      exact ⟨ret_bool HR.out.symm, HB2.out⟩

set_option maxRecDepth 100000 in
set_option maxHeartbeats 1600000 in
theorem mEqualFunc {w : World} {a b : Option Addr} {L M : List RatL} (c d : Nat) (h : RatsAt w a L) (g : RatsAt w b M) :
    Calls Try.prog 132 #[.slice a L.length c, .slice b M.length d, .func (.func 133) #[] #[]] w fun e w' => e = .returned (.bool (decide (L = M))) ∧ Below w.heap.size w w' := by
  have hl := h.len
  have hm := g.len
  have HA := Lib.hid h
  have HG := Lib.hid g
  clear h g
  by_cases he : L.length = M.length
  · have HE := Lib.hid he
    have hlb : decide (¬ (L.length : Int) = (M.length : Int)) = false := by simp; omega
    have hlc : ((L.length : Int) == (M.length : Int)) = true := by simp; omega
    have hld : ((L.length : Int) != (M.length : Int)) = false := by rw [he]; simp
    have hge1 : L.length ≤ M.length := by omega
    have hge2 : M.length ≤ L.length := by omega
    go_enter Try.func132, Try.ntmps132
    clear he
    go_wp2
    go_loopw [7, 8, 9, 17] (fun _ _ _ i wr => ∃ j : Nat, j ≤ L.length ∧ i = .int .i64 (j : Int) ∧ Hid (L.take j = M.take j) ∧ Hid (Below w.heap.size w wr)) (fun _ _ _ i _ => L.length - (intOf i).toNat)
    case atStart => exact ⟨0, Nat.zero_le _, rfl, by simp [Hid], Below.refl _ _⟩
    case round =>
      obtain ⟨j, hj, rfl, HT, HB⟩ := hrel
      by_cases hlt : j < L.length
      · have hltm : j < M.length := by omega
        obtain ⟨b1, o1, x, an, ad, cn, cd, rfl, hb1, hx, p0, p1, p2, hv⟩ := (HA.out.below HB.out).pick hlt
        obtain ⟨b2, o2, y, bn, bd, dn, dd, rfl, hb2, hy, r0, r1, r2, hu⟩ := (HG.out.below HB.out).pick hltm
        have HXx := Lib.hid hx
        have HYy := Lib.hid hy
        have TA := Lib.hid (take_succ_at hx)
        have TB := Lib.hid (take_succ_at hy)
        have HC := Lib.hid (fun wv (hb : Below wr.heap.size wr wv) => mRatEq (hv.below hb) (hu.below hb))
        have hal : Below wr.heap.size wr (wr.alloc (.cells #[.bool x.neg, .slice an x.num.length cn, .slice ad x.den.length cd] 78)) := (Below.refl _ _).alloc (Nat.le_refl _) _
        have hal2 := hal.trans (((Below.refl _ (wr.alloc (.cells #[.bool x.neg, .slice an x.num.length cn, .slice ad x.den.length cd] 78))).alloc (Nat.le_refl _) (.cells #[.bool y.neg, .slice bn y.num.length dn, .slice bd y.den.length dd] 78)).mono hal.size)
        have HAl := Lib.hid hal2
        clear hx hy hv hu hal hal2
        go_wp2_with fail
        refine (HC.out _ HAl.out).mono ?_
        rintro e w2 ⟨rfl, hw2⟩
        have HB2 := Lib.hid (HB.out.trans ((HAl.out.trans (hw2.mono HAl.out.size)).mono HB.out.size))
        clear hw2 HAl HC p0 p1 p2 r0 r1 r2
        by_cases hxy : x = y
        · have e1 : decide (x = y) = true := decide_eq_true hxy
          have HXY := Lib.hid hxy
          clear hxy
          go_wp2
          go_roundw
          case rel => exact ⟨j + 1, hlt, by go_num, by unfold Hid; rw [TA.out, TB.out, HT.out, HXY.out], HB2.out⟩
          case measure => simp [intOf]; omega
        · have e1 : decide (x = y) = false := decide_eq_false hxy
          have hne : Hid (decide (L = M) = false) := by
            unfold Hid
            rw [decide_eq_false_iff_not]
            rintro rfl
            have h1 := HXx.out.symm.trans HYy.out
            cases h1
            exact hxy rfl
          clear hxy
          go_wp2
          go_ret
          exact ⟨ret_bool hne.out.symm, HB2.out⟩
      · obtain rfl : j = L.length := by omega
        have he2 : Hid (decide (L = M) = true) := by
          have h1 := HT.out
          rw [List.take_length, HE.out, List.take_length] at h1
          unfold Hid; simp [h1]
        go_wp2
        go_ret
        exact ⟨ret_bool he2.out.symm, HB.out⟩
  · have hne : Hid (decide (L = M) = false) := by
      unfold Hid
      rw [decide_eq_false_iff_not]
      rintro rfl
      exact he rfl
    go_enter Try.func132, Try.ntmps132
    go_wp2
    go_ret
    exact ⟨ret_bool hne.out.symm, Below.refl _ _⟩

set_option maxHeartbeats 400000 in
theorem mRats {w : World} {a b : Option Addr} {L M : List RatL} (c d : Nat) (h : RatsAt w a L) (g : RatsAt w b M) :
    Calls Try.prog 109 #[.slice a L.length c, .slice b M.length d] w fun e w' => e = .returned (.bool (decide (L = M))) ∧ Below w.heap.size w w' := by
  have HC := Lib.hid (mEqualFunc c d h g)
  have hl := h.len
  have hm := g.len
  generalize decide (L = M) = R at *
  clear h g
  go_enter Try.func109, Try.ntmps109
  go_wp2_with fail
  refine HC.out.mono ?_
  rintro e w2 ⟨rfl, hw2⟩
  go_wp2
  go_ret
  exact ⟨rfl, hw2⟩

end Go.Proofs.Ythlmgejikbmmaaa

/-
  The program's tests of a layer (package model), one by one: by contract. Printed by genModD.py.
-/
namespace Go.Proofs.Ythlmgejikbmmaaa
open Go.RowKit

def sameB (l m : LayL) : Bool := (l.kind == m.kind) && ((l.frm == m.frm) && ((l.out == m.out) && ((l.kh == m.kh) && ((l.kw == m.kw) && ((l.stride == m.stride) && ((l.pad == m.pad) && (decide (l.weights = m.weights) && decide (l.bias = m.bias))))))))
theorem RatsAt.nil (w : World) (a : Option Addr) : RatsAt w a [] := ⟨by simp, .inl rfl⟩
/-- A variable that holds a function without captured variables. -/
structure FCell (w : World) (p f : Nat) : Prop where
  cell : w.cell? ⟨p, 0, none⟩ = some (.func (.func f) #[] #[])
  lt : p < w.heap.size
theorem FCell.below {w w' : World} {p f : Nat} (h : FCell w p f) (hb : Below w.heap.size w w') : FCell w' p f := ⟨(hb.cell h.lt).trans h.cell, Nat.lt_of_lt_of_le h.lt hb.size⟩

set_option maxRecDepth 100000 in
set_option maxHeartbeats 3200000 in
theorem mSame {w : World} {v u : Value} {l m : LayL} (hv : LayV w v l) (hu : LayV w u m) :
    Calls Try.prog 80 #[v, u] w fun e w' => e = .returned (.bool (sameB l m)) ∧ Below w.heap.size w w' := by
  obtain ⟨a1, a2, c1, c2, rfl, r1, r2⟩ := hv.ex
  obtain ⟨b1, b2, d1, d2, rfl, s1, s2⟩ := hu.ex
  have q1 := r1.len
  have q2 := r2.len
  have q3 := s1.len
  have q4 := s2.len
  have R1 := Lib.hid r1
  have R2 := Lib.hid r2
  have S1 := Lib.hid s1
  have S2 := Lib.hid s2
  clear hv hu r1 r2 s1 s2
  go_enter Try.func80, Try.ntmps80
  go_upto_region 1 with fail
  have hbA : Below w.heap.size w (w.alloc (.cells #[.int .i64 l.kind, .int .i64 l.frm, .int .i64 l.out, .int .i64 l.kh, .int .i64 l.kw, .int .i64 l.stride, .int .i64 l.pad, .slice a1 l.weights.length c1, .slice a2 l.bias.length c2] 26)) := (Below.refl _ _).alloc (Nat.le_refl _) _
  have hx := Box9.alloc w (.int .i64 l.kind) (.int .i64 l.frm) (.int .i64 l.out) (.int .i64 l.kh) (.int .i64 l.kw) (.int .i64 l.stride) (.int .i64 l.pad) (.slice a1 l.weights.length c1) (.slice a2 l.bias.length c2) 26
  generalize hW : w.alloc (.cells #[.int .i64 l.kind, .int .i64 l.frm, .int .i64 l.out, .int .i64 l.kh, .int .i64 l.kw, .int .i64 l.stride, .int .i64 l.pad, .slice a1 l.weights.length c1, .slice a2 l.bias.length c2] 26) = W at *
  have hsz : W.heap.size = w.heap.size + 1 := by rw [← hW]; simp
  have hbB : Below W.heap.size W (W.alloc (.cells #[.int .i64 m.kind, .int .i64 m.frm, .int .i64 m.out, .int .i64 m.kh, .int .i64 m.kw, .int .i64 m.stride, .int .i64 m.pad, .slice b1 m.weights.length d1, .slice b2 m.bias.length d2] 26)) := (Below.refl _ _).alloc (Nat.le_refl _) _
  have hy := Box9.alloc W (.int .i64 m.kind) (.int .i64 m.frm) (.int .i64 m.out) (.int .i64 m.kh) (.int .i64 m.kw) (.int .i64 m.stride) (.int .i64 m.pad) (.slice b1 m.weights.length d1) (.slice b2 m.bias.length d2) 26
  rw [hsz] at hy
  generalize W.alloc (.cells #[.int .i64 m.kind, .int .i64 m.frm, .int .i64 m.out, .int .i64 m.kh, .int .i64 m.kw, .int .i64 m.stride, .int .i64 m.pad, .slice b1 m.weights.length d1, .slice b2 m.bias.length d2] 26) = V at *
  have HX := Lib.hid (hx.below hbB)
  have HY := Lib.hid hy
  have HB := Lib.hid (hbA.trans (hbB.mono hbA.size))
  clear hx hy hbA hbB hW hsz
  obtain ⟨x0, x1, x2, x3, x4, x5, x6, x7, x8, xlt⟩ := HX.out
  obtain ⟨y0, y1, y2, y3, y4, y5, y6, y7, y8, ylt⟩ := HY.out
  cases e1 : (l.kind == m.kind) with
  | false =>
    have HR : Hid (sameB l m = false) := by unfold Hid sameB; rw [e1]; rfl
    go_wp2
    go_ret
    exact ⟨ret_bool HR.out.symm, HB.out⟩
  | true =>
    cases e2 : (l.frm == m.frm) with
    | false =>
      have HR : Hid (sameB l m = false) := by unfold Hid sameB; rw [e1, e2]; rfl
      go_wp2
      go_ret
      exact ⟨ret_bool HR.out.symm, HB.out⟩
    | true =>
      cases e3 : (l.out == m.out) with
      | false =>
        have HR : Hid (sameB l m = false) := by unfold Hid sameB; rw [e1, e2, e3]; rfl
        go_wp2
        go_ret
        exact ⟨ret_bool HR.out.symm, HB.out⟩
      | true =>
        cases e4 : (l.kh == m.kh) with
        | false =>
          have HR : Hid (sameB l m = false) := by unfold Hid sameB; rw [e1, e2, e3, e4]; rfl
          go_wp2
          go_ret
          exact ⟨ret_bool HR.out.symm, HB.out⟩
        | true =>
          cases e5 : (l.kw == m.kw) with
          | false =>
            have HR : Hid (sameB l m = false) := by unfold Hid sameB; rw [e1, e2, e3, e4, e5]; rfl
            go_wp2
            go_ret
            exact ⟨ret_bool HR.out.symm, HB.out⟩
          | true =>
            cases e6 : (l.stride == m.stride) with
            | false =>
              have HR : Hid (sameB l m = false) := by unfold Hid sameB; rw [e1, e2, e3, e4, e5, e6]; rfl
              go_wp2
              go_ret
              exact ⟨ret_bool HR.out.symm, HB.out⟩
            | true =>
              cases e7 : (l.pad == m.pad) with
              | false =>
                have HR : Hid (sameB l m = false) := by unfold Hid sameB; rw [e1, e2, e3, e4, e5, e6, e7]; rfl
                go_wp2
                go_ret
                exact ⟨ret_bool HR.out.symm, HB.out⟩
              | true =>
                have HR0 : Hid (sameB l m = (decide (l.weights = m.weights) && decide (l.bias = m.bias))) := by unfold Hid sameB; rw [e1, e2, e3, e4, e5, e6, e7]; rfl
                have HC := Lib.hid (mRats c1 d1 (R1.out.below HB.out) (S1.out.below HB.out))
                cases e8 : decide (l.weights = m.weights) with
                | false =>
                  have HR : Hid (sameB l m = false) := by unfold Hid; rw [HR0.out, e8]; rfl
                  rw [e8] at HC
                  clear e8
                  go_wp2_with fail
                  refine HC.out.mono ?_
                  rintro e w1 ⟨rfl, hb1⟩
                  have HB1 := Lib.hid (HB.out.trans (hb1.mono HB.out.size))
                  clear hb1 x0 x1 x2 x3 x4 x5 x6 x7 x8 y0 y1 y2 y3 y4 y5 y6 y7 y8
                  go_wp2
                  go_ret
                  exact ⟨ret_bool HR.out.symm, HB1.out⟩
                | true =>
                  have HR : Hid (sameB l m = decide (l.bias = m.bias)) := by unfold Hid; rw [HR0.out, e8]; rfl
                  rw [e8] at HC
                  clear e8
                  go_wp2_with fail
                  refine HC.out.mono ?_
                  rintro e w1 ⟨rfl, hb1⟩
                  have HB1 := Lib.hid (HB.out.trans (hb1.mono HB.out.size))
                  clear x0 x1 x2 x3 x4 x5 x6 x7 x8 y0 y1 y2 y3 y4 y5 y6 y7 y8
                  obtain ⟨x0, x1, x2, x3, x4, x5, x6, x7, x8, xlt⟩ := HX.out.below hb1
                  obtain ⟨y0, y1, y2, y3, y4, y5, y6, y7, y8, ylt⟩ := HY.out.below hb1
                  have HC2 := Lib.hid (mRats c2 d2 (R2.out.below HB1.out) (S2.out.below HB1.out))
                  generalize decide (l.bias = m.bias) = R at *
                  clear hb1
                  go_wp2_with fail
                  refine HC2.out.mono ?_
                  rintro e w2 ⟨rfl, hb2⟩
                  have HB2 := Lib.hid (HB1.out.trans (hb2.mono HB1.out.size))
                  clear hb2 x0 x1 x2 x3 x4 x5 x6 x7 x8 y0 y1 y2 y3 y4 y5 y6 y7 y8
                  go_wp2
                  go_ret
                  exact ⟨ret_bool HR.out.symm, HB2.out⟩

set_option maxRecDepth 100000 in
set_option maxHeartbeats 3200000 in
theorem mOnly {w : World} {v u : Value} {l m : LayL} (hv : LayV w v l) (hu : LayV w u m) :
    Calls Try.prog 79 #[v, u] w fun e w' => e = .returned (.bool (sameB l ⟨l.kind, m.frm, m.out, m.kh, m.kw, m.stride, m.pad, m.weights, m.bias⟩)) ∧ Below w.heap.size w w' := by
  obtain ⟨a1, a2, c1, c2, rfl, r1, r2⟩ := hv.ex
  obtain ⟨b1, b2, d1, d2, rfl, s1, s2⟩ := hu.ex
  have q1 := r1.len
  have q2 := r2.len
  have q3 := s1.len
  have q4 := s2.len
  have hb : Below w.heap.size w ((w.alloc (.cells #[.int .i64 l.kind, .int .i64 l.frm, .int .i64 l.out, .int .i64 l.kh, .int .i64 l.kw, .int .i64 l.stride, .int .i64 l.pad, .slice a1 l.weights.length c1, .slice a2 l.bias.length c2] 26)).alloc (.cells #[.int .i64 l.kind, .int .i64 m.frm, .int .i64 m.out, .int .i64 m.kh, .int .i64 m.kw, .int .i64 m.stride, .int .i64 m.pad, .slice b1 m.weights.length d1, .slice b2 m.bias.length d2] 26)) := ((Below.refl _ _).alloc (Nat.le_refl _) _).alloc (by simp) _
  have HB := Lib.hid hb
  have HC := Lib.hid (mSame (w := (w.alloc (.cells #[.int .i64 l.kind, .int .i64 l.frm, .int .i64 l.out, .int .i64 l.kh, .int .i64 l.kw, .int .i64 l.stride, .int .i64 l.pad, .slice a1 l.weights.length c1, .slice a2 l.bias.length c2] 26)).alloc (.cells #[.int .i64 l.kind, .int .i64 m.frm, .int .i64 m.out, .int .i64 m.kh, .int .i64 m.kw, .int .i64 m.stride, .int .i64 m.pad, .slice b1 m.weights.length d1, .slice b2 m.bias.length d2] 26)) (l := l) (m := ⟨l.kind, m.frm, m.out, m.kh, m.kw, m.stride, m.pad, m.weights, m.bias⟩) ⟨a1, a2, c1, c2, rfl, r1.below hb, r2.below hb⟩ ⟨b1, b2, d1, d2, rfl, s1.below hb, s2.below hb⟩)
  clear hv hu r1 r2 s1 s2 hb
  go_enter Try.func79, Try.ntmps79
  go_wp2_with fail
  refine HC.out.mono ?_
  rintro e w1 ⟨rfl, hb1⟩
  have HB1 := Lib.hid (HB.out.trans (hb1.mono HB.out.size))
  clear hb1 HC HB
  go_wp2
  go_ret
  exact ⟨rfl, HB1.out⟩

set_option maxRecDepth 100000 in
set_option maxHeartbeats 1600000 in
theorem mOut {w : World} {v : Value} {l : LayL} (hv : LayV w v l) : Calls Try.prog 78 #[v] w fun e w' => e = .returned (.bool (outB l)) ∧ Below w.heap.size w w' := by
  obtain ⟨a1, a2, c1, c2, rfl, r1, r2⟩ := hv.ex
  have hb : Below w.heap.size w (w.alloc (.cells #[.int .i64 l.kind, .int .i64 l.frm, .int .i64 l.out, .int .i64 l.kh, .int .i64 l.kw, .int .i64 l.stride, .int .i64 l.pad, .slice a1 l.weights.length c1, .slice a2 l.bias.length c2] 26)) := (Below.refl _ _).alloc (Nat.le_refl _) _
  have HB := Lib.hid hb
  generalize hR : outB l = R
  unfold outB at hR
  generalize l.out = n at *
  clear hv r1 r2 hb
  by_cases h1 : 1 ≤ n
  · by_cases h2 : n ≤ 16384
    · rw [decide_eq_true h1, decide_eq_true h2] at hR
      have HR := Lib.hid hR
      clear hR
      go_enter Try.func78, Try.ntmps78
      go_wp2
      go_ret
      exact ⟨ret_bool HR.out, HB.out⟩
    · rw [decide_eq_true h1, decide_eq_false h2] at hR
      have HR := Lib.hid hR
      clear hR
      go_enter Try.func78, Try.ntmps78
      go_wp2
      go_ret
      exact ⟨ret_bool HR.out, HB.out⟩
  · rw [decide_eq_false h1] at hR
    have HR := Lib.hid hR
    clear hR
    go_enter Try.func78, Try.ntmps78
    go_wp2
    go_ret
    exact ⟨ret_bool HR.out, HB.out⟩

set_option maxRecDepth 100000 in
set_option maxHeartbeats 1600000 in
theorem mKernel {w : World} {v : Value} {l : LayL} (hv : LayV w v l) : Calls Try.prog 82 #[v] w fun e w' => e = .returned (.bool (kerB l)) ∧ Below w.heap.size w w' := by
  obtain ⟨a1, a2, c1, c2, rfl, r1, r2⟩ := hv.ex
  have hb : Below w.heap.size w (w.alloc (.cells #[.int .i64 l.kind, .int .i64 l.frm, .int .i64 l.out, .int .i64 l.kh, .int .i64 l.kw, .int .i64 l.stride, .int .i64 l.pad, .slice a1 l.weights.length c1, .slice a2 l.bias.length c2] 26)) := (Below.refl _ _).alloc (Nat.le_refl _) _
  have HB := Lib.hid hb
  generalize hR : kerB l = R
  unfold kerB at hR
  have C1 := Lib.hid (fun W => mSide l.kh W)
  have C2 := Lib.hid (fun W => mSide l.kw W)
  have C3 := Lib.hid (fun W => mSide l.stride W)
  clear hv r1 r2 hb
  cases e1 : sidB l.kh with
  | false =>
    rw [e1] at hR C1
    have HR := Lib.hid hR
    clear hR e1
    go_enter Try.func82, Try.ntmps82
    go_wp2_with (first | (go_at_call 110; (with_reducible refine (C1.out _).mono ?_); rintro e w' ⟨rfl, rfl⟩))
    go_ret
    exact ⟨ret_bool HR.out, HB.out⟩
  | true =>
    rw [e1] at hR C1
    cases e2 : sidB l.kw with
    | false =>
      rw [e2] at hR C2
      have HR := Lib.hid hR
      clear hR e1 e2
      go_enter Try.func82, Try.ntmps82
      go_wp2_with fail
      refine (C1.out _).mono ?_
      rintro e w' ⟨rfl, rfl⟩
      go_wp2_with fail
      refine (C2.out _).mono ?_
      rintro e w' ⟨rfl, rfl⟩
      go_wp2
      go_ret
      exact ⟨ret_bool HR.out, HB.out⟩
    | true =>
      rw [e2] at hR C2
      generalize sidB l.stride = z at *
      have HR := Lib.hid hR
      clear hR e1 e2
      go_enter Try.func82, Try.ntmps82
      go_wp2_with fail
      refine (C1.out _).mono ?_
      rintro e w' ⟨rfl, rfl⟩
      go_wp2_with fail
      refine (C2.out _).mono ?_
      rintro e w' ⟨rfl, rfl⟩
      go_wp2_with fail
      refine (C3.out _).mono ?_
      rintro e w' ⟨rfl, rfl⟩
      go_wp2
      go_ret
      exact ⟨ret_bool HR.out, HB.out⟩

set_option maxRecDepth 100000 in
set_option maxHeartbeats 1600000 in
theorem mWeights {w : World} {v : Value} {l : LayL} (hv : LayV w v l) (n : Int) (h1 : 1 ≤ n) (h2 : n ≤ 1000000000) : Calls Try.prog 85 #[v, .int .i64 n] w fun e w' => e = .returned (.bool (wgtB l n)) ∧ Below w.heap.size w w' := by
  obtain ⟨a1, a2, c1, c2, rfl, r1, r2⟩ := hv.ex
  have hb : Below w.heap.size w (w.alloc (.cells #[.int .i64 l.kind, .int .i64 l.frm, .int .i64 l.out, .int .i64 l.kh, .int .i64 l.kw, .int .i64 l.stride, .int .i64 l.pad, .slice a1 l.weights.length c1, .slice a2 l.bias.length c2] 26)) := (Below.refl _ _).alloc (Nat.le_refl _) _
  have HB := Lib.hid hb
  have q1 := r1.len
  have q2 := r2.len
  generalize hR : wgtB l n = R
  unfold wgtB at hR
  clear hv r1 r2 hb
  by_cases e1 : (l.bias.length : Int) = l.out
  · have t1 : ((l.bias.length : Int) == l.out) = true := by rw [beq_iff_eq]; exact e1
    rw [decide_eq_true e1] at hR
    clear e1
    by_cases e2 : 0 < l.weights.length
    · by_cases e3 : l.weights.length ≤ 16384
      · rw [decide_eq_true e2, decide_eq_true e3] at hR
        by_cases e4 : (l.weights.length : Int) % n = 0
        · have t4 : ((l.weights.length : Int) % n == 0) = true := by rw [beq_iff_eq]; exact e4
          rw [decide_eq_true e4] at hR
          have HR := Lib.hid hR
          clear hR e4
          go_enter Try.func85, Try.ntmps85
          go_wp2
          go_ret
          exact ⟨ret_bool HR.out, HB.out⟩
        · have t4 : ((l.weights.length : Int) % n == 0) = false := by rw [beq_eq_false_iff_ne]; exact e4
          rw [decide_eq_false e4] at hR
          have HR := Lib.hid hR
          clear hR e4
          go_enter Try.func85, Try.ntmps85
          go_wp2
          go_ret
          exact ⟨ret_bool HR.out, HB.out⟩
      · rw [decide_eq_true e2, decide_eq_false e3] at hR
        have HR := Lib.hid hR
        clear hR
        go_enter Try.func85, Try.ntmps85
        go_wp2
        go_ret
        exact ⟨ret_bool HR.out, HB.out⟩
    · rw [decide_eq_false e2] at hR
      have HR := Lib.hid hR
      clear hR
      go_enter Try.func85, Try.ntmps85
      go_wp2
      go_ret
      exact ⟨ret_bool HR.out, HB.out⟩
  · have t1 : ((l.bias.length : Int) == l.out) = false := by rw [beq_eq_false_iff_ne]; exact e1
    rw [decide_eq_false e1] at hR
    have HR := Lib.hid hR
    clear hR e1
    go_enter Try.func85, Try.ntmps85
    go_wp2
    go_ret
    exact ⟨ret_bool HR.out, HB.out⟩

end Go.Proofs.Ythlmgejikbmmaaa
