/-
  Contracts of the functions that the statements reach, in the order in which they are built: RKB.
-/
import Derived.Test.YthlmgejikbmmaaaS19
import Derived.Test.YthlmgejikbmmaaaS8
set_option linter.unusedVariables false
set_option linter.unusedSimpArgs false
set_option linter.constructorNameAsVariable false
set_option linter.deprecated false

/-
  The reference's Same, Valid, ValidAll of layer 3: by contract.
-/
namespace Go.Proofs.Ythlmgejikbmmaaa
open Go.RowKit

/-- Two rationals boxed. -/
structure TwoB (w W : World) (g : Nat) (p q r s t u : Value) : Prop where
  a : Box3 W g p q r
  b : Box3 W (g + 1) s t u
  bl : Below g w W
theorem TwoB.mk' (w : World) (p q r s t u : Value) (T : Nat) : TwoB w ((w.alloc (.cells #[p, q, r] T)).alloc (.cells #[s, t, u] T)) w.heap.size p q r s t u := by
  have step : ∀ (W : World) (o : Obj), Below W.heap.size W (W.alloc o) := fun W o => (Below.refl _ _).alloc (Nat.le_refl _) _
  have s1 := step w (.cells #[p, q, r] T)
  have s3 := step (w.alloc (.cells #[p, q, r] T)) (.cells #[s, t, u] T)
  have b1 := Box3.alloc w p q r T
  have b3 := Box3.alloc (w.alloc (.cells #[p, q, r] T)) s t u T
  have b1' := b1.below s3
  have bl := s1.trans (s3.mono (by simp))
  simp only [World.size_alloc] at b3
  exact ⟨b1', b3, bl⟩
theorem ratL_ext (x y : RatL) : decide (x = y) = (decide (x.neg = y.neg) && (decide (x.num = y.num) && decide (x.den = y.den))) := by
  rw [Bool.eq_iff_iff]
  simp only [decide_eq_true_eq, Bool.and_eq_true]
  obtain ⟨a, b, c⟩ := x
  obtain ⟨d, e, f⟩ := y
  simp

set_option maxRecDepth 100000 in
set_option maxHeartbeats 1600000 in
theorem r3Same {w : World} {v u : Value} {x y : RatL} (hv : RatV w v x) (hu : RatV w u y) :
    Calls Try.prog 99 #[v, u] w fun e w' => e = .returned (.bool (decide (x = y))) ∧ Below w.heap.size w w' := by
  obtain ⟨an, ad, cn, cd, rfl, a2, a3, a4, a5⟩ := hv.ex
  obtain ⟨bn, bd, dn, dd, rfl, b2, b3, b4, b5⟩ := hu.ex
  have HR := Lib.hid (ratL_ext x y)
  generalize decide (x = y) = R at *
  have hl1 := a4.len
  have hl2 := a5.len
  have hl3 := b4.len
  have hl4 := b5.len
  have A4 := Lib.hid a4
  have A5 := Lib.hid a5
  have B4 := Lib.hid b4
  have B5 := Lib.hid b5
  clear hv hu a4 a5 b4 b5
  go_enter Try.func99, Try.ntmps99
  go_upto_region 1 with fail
  have hF := TwoB.mk' w (.bool x.neg) (.slice an x.num.length cn) (.slice ad x.den.length cd) (.bool y.neg) (.slice bn y.num.length dn) (.slice bd y.den.length dd) 78
  generalize (w.alloc (.cells #[.bool x.neg, .slice an x.num.length cn, .slice ad x.den.length cd] 78)).alloc (.cells #[.bool y.neg, .slice bn y.num.length dn, .slice bd y.den.length dd] 78) = W at *
  have HBl := Lib.hid hF.bl
  have HM1 := Lib.hid (r1Same cn dn (A4.out.below hF.bl) (B4.out.below hF.bl))
  have HM2 := Lib.hid (fun n => r1Same cd dd ((A5.out.below hF.bl).drewN n) ((B5.out.below hF.bl).drewN n))
  have HBn := Lib.hid (fun (wv : World) n => Below.drewN_refl wv n)
  obtain ⟨x0, x1, x2, _, xlt⟩ := hF.a
  obtain ⟨y0, y1, y2, _, ylt⟩ := hF.b
  have hbs := hF.bl.size
  clear hF A4 A5 B4 B5
  by_cases e1 : x.neg = y.neg
  · have te1 : (x.neg == y.neg) = true := by rw [beq_iff_eq]; exact e1
    rw [decide_eq_true e1, Bool.true_and] at HR
    clear e1
    by_cases e2 : x.num = y.num
    · rw [decide_eq_true e2] at HR HM1
      clear e2
      rw [Bool.true_and] at HR
      generalize decide (x.den = y.den) = D at *
      go_wp2_with fail
      refine HM1.out.mono ?_
      rintro e w2 ⟨rfl, n1, rfl⟩
      go_wp2_with fail
      refine (HM2.out n1).mono ?_
      rintro e w3 ⟨rfl, n2, rfl⟩
      go_wp2
      go_ret
      exact ⟨ret_bool HR.out.symm, HBl.out.trans ((HBn.out _ (n1 + n2)).mono HBl.out.size)⟩
    · rw [decide_eq_false e2] at HR HM1
      clear e2
      rw [Bool.false_and] at HR
      go_wp2_with fail
      refine HM1.out.mono ?_
      rintro e w2 ⟨rfl, n1, rfl⟩
      go_wp2
      go_ret
      exact ⟨ret_bool HR.out.symm, HBl.out.trans ((HBn.out _ _).mono HBl.out.size)⟩
  · have te1 : (x.neg == y.neg) = false := by rw [beq_eq_false_iff_ne]; exact e1
    rw [decide_eq_false e1, Bool.false_and] at HR
    clear e1
    go_wp2
    go_ret
    exact ⟨ret_bool HR.out.symm, HBl.out⟩

set_option maxRecDepth 100000 in
set_option maxHeartbeats 1600000 in
theorem r3Valid {w : World} {v : Value} {x : RatL} (hv : RatV w v x) (hx : RatLe x 1048576) :
    Calls Try.prog 70 #[v] w fun e w' => e = .returned (.bool (validR x)) ∧ Below w.heap.size w w' := by
  have HV := Lib.hid hv
  have HX := Lib.hid hx
  obtain ⟨an, ad, cn, cd, rfl, a2, a3, a4, a5⟩ := hv.ex
  have HR : Hid (validR x = decide (x = canonL x)) := rfl
  generalize validR x = R at *
  have hl1 := a4.len
  have hl2 := a5.len
  clear hv hx a4 a5
  go_enter Try.func70, Try.ntmps70
  go_upto_region 1 with fail
  have hX := Box3.alloc w (.bool x.neg) (.slice an x.num.length cn) (.slice ad x.den.length cd) 78
  have hb : Below w.heap.size w (w.alloc (.cells #[.bool x.neg, .slice an x.num.length cn, .slice ad x.den.length cd] 78)) := (Below.refl _ _).alloc (Nat.le_refl _) _
  generalize w.alloc (.cells #[.bool x.neg, .slice an x.num.length cn, .slice ad x.den.length cd] 78) = W at *
  have HB := Lib.hid hb
  have HV2 := Lib.hid (HV.out.below hb)
  have HX3 := Lib.hid hX
  obtain ⟨x0, x1, x2, xf, xlt⟩ := hX
  have xbl : Below W.heap.size W W.drew := (Below.refl _ _).drew
  clear hb xf HV
  go_region_held3 (fun w' => w'.cell? ⟨w.heap.size, 0, none⟩ = some (.bool x.neg) ∧ w'.cell? ⟨w.heap.size, 1, none⟩ = some (.slice an x.num.length cn) ∧ w'.cell? ⟨w.heap.size, 2, none⟩ = some (.slice ad x.den.length cd))
    (first | exact S3_keep x0 x1 x2 xlt ‹Below W.heap.size W _› | go_keep)
    (first
      | (go_at_call 100; have hS := ‹Below W.heap.size W _›; refine (r3Canon (HV2.out.below hS) HX.out).mono ?_; rintro e w1 ⟨v1, rfl, g1, g2⟩
         have hS1 := hS.trans (g2.mono hS.size); have G1 := Lib.hid g1; clear g1)
      | (go_at_call 99; have hS := ‹Below W.heap.size W _›; refine (r3Same (HV2.out.below hS) G1.out).mono ?_
         rintro e w2 ⟨rfl, g3⟩
         have hS2 := hS.trans (g3.mono hS.size)
         have hB2 := Lib.hid (HB.out.trans (hS2.mono HB.out.size))))
  go_wp2
  go_ret
  exact ⟨ret_bool HR.out.symm, hB2.out⟩

theorem allV_take {L : List RatL} {j : Nat} {x : RatL} (hx : L[j]? = some x) : (L.take (j + 1)).all validR = ((L.take j).all validR && validR x) := by
  rw [take_succ_at hx, List.all_append]; simp
theorem allV_false {L : List RatL} {x : RatL} (hx : x ∈ L) (h : validR x = false) : L.all validR = false := by
  rw [List.all_eq_false]; exact ⟨x, hx, by simp [h]⟩

set_option maxRecDepth 100000 in
set_option maxHeartbeats 1600000 in
theorem r3ValidAll {w : World} {a : Option Addr} {L : List RatL} (c : Nat) (h : RatsAt w a L) (hL : ∀ x ∈ L, RatLe x 1048576) :
    Calls Try.prog 49 #[.slice a L.length c] w fun e w' => e = .returned (.bool (L.all validR)) ∧ Below w.heap.size w w' := by
  have hl := h.len
  have H := Lib.hid h
  have HL := Lib.hid hL
  have HR : Hid (L.all validR = L.all validR) := rfl
  have HF : Hid (∀ x ∈ L, validR x = false → L.all validR = false) := fun x hx hf => allV_false hx hf
  clear h hL
  go_enter Try.func49, Try.ntmps49
  go_wp2
  go_loopw [3] (fun i wr => ∃ j : Nat, j ≤ L.length ∧ i = .int .i64 (j : Int) ∧ Hid ((L.take j).all validR = true) ∧ Hid (Below w.heap.size w wr)) (fun i _ => L.length - (intOf i).toNat)
  case atStart => exact ⟨0, Nat.zero_le _, rfl, rfl, Below.refl _ _⟩
  case round =>
    obtain ⟨j, hj, rfl, HA, HB⟩ := hrel
    by_cases hlt : j < L.length
    · obtain ⟨b, off, x, an, ad, cn, cd, rfl, hb, hx, o0, o1, o2, hv⟩ := (H.out.below HB.out).pick hlt
      have HM := Lib.hid (List.mem_of_getElem? hx)
      have HT := Lib.hid (allV_take hx)
      have HC := Lib.hid (r3Valid hv (HL.out _ HM.out))
      clear hx hv
      go_wp2_with fail
      refine HC.out.mono ?_
      rintro e w2 ⟨rfl, hb2⟩
      have HB2 := Lib.hid (HB.out.trans (hb2.mono HB.out.size))
      clear hb2 HC o0 o1 o2
      cases hq : validR x with
      | false =>
        have HF2 := Lib.hid (HF.out x HM.out hq)
        clear hq
        go_wp2
        go_ret
        exact ⟨ret_bool HF2.out.symm, HB2.out⟩
      | true =>
        have HT2 : Hid ((L.take (j + 1)).all validR = true) := by unfold Hid; rw [HT.out, HA.out, hq]; rfl
        clear hq
        go_wp2
        go_roundw
        case rel => exact ⟨j + 1, hlt, by go_num, HT2.out, HB2.out⟩
        case measure => simp [intOf]; omega
    · have HR2 : Hid (L.all validR = true) := by
        have h := HA.out
        rw [List.take_of_length_le (by omega)] at h
        exact h
      go_wp2
      go_ret
      exact ⟨ret_bool HR2.out.symm, HB.out⟩

end Go.Proofs.Ythlmgejikbmmaaa
