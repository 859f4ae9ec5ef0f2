/-
  Contracts of the functions that the statement reaches: LwB.
-/
import Derived.Test.YtoppijdedkdjeaaGreatF27
import Derived.Test.YtoppijdedkdjeaaGreatF21
set_option linter.unusedVariables false
set_option linter.unusedSimpArgs false
set_option linter.constructorNameAsVariable false
set_option linter.deprecated false
set_option maxRecDepth 100000
set_option maxHeartbeats 3200000
namespace Go.Proofs.YtoppijdedkdjeaaGreat
open Go.RowKit
open Go.Lib (hid)
theorem kFair14 {w : World} {m : ModL} {L : List RatL} {a1 a2 ax : Option Addr} (c1 c2 cx : Nat) (h1 : Ints w Any a1 m.input) (h2 : LaysAt w a2 m.layers) (hX : RatsAt w ax L) (hs : ∀ l ∈ m.layers, LayLe l) (hL : ∀ x ∈ L, RatLe x 1048576) :
  Calls Tryz.prog 12 #[.agg #[.slice a1 m.input.length c1, .slice a2 m.layers.length c2], .slice ax L.length cx] w fun e w' => e = .returned (.bool (fairE m L)) /\ Below w.heap.size w w' := by
 have q1 := h1.len
 have q2 := h2.len
 have q3 := hX.len
 have H1 := hid h1
 have H2 := hid h2
 have HX0 := hid hX
 have HSh := hid hs
 have HL := hid hL
 generalize hR : fairE m L = R
 unfold fairE at hR
 have HRd := hid hR
 have hbA : Below w.heap.size w (w.alloc (.cells #[.slice a1 m.input.length c1, .slice a2 m.layers.length c2] 25)) := (Below.refl _ _).alloc (Nat.le_refl _) _
 have hx := Box2.alloc w (.slice a1 m.input.length c1) (.slice a2 m.layers.length c2) 25
 clear h1 h2 hR hX hs hL
 go_enter Tryz.func12, Tryz.ntmps12
 go_upto_region 1 with fail
 generalize w.alloc (.cells #[.slice a1 m.input.length c1, .slice a2 m.layers.length c2] 25) = W at *
 have HB := hid hbA
 have HX := hid hx
 clear hbA hx
 obtain ⟨x0, x1, xf, xlt⟩ := HX.out
 have HS := hid (rSize c1 (H1.out.below HB.out))
 generalize hsz : sizeL m.input = sz at *
 clear hsz
 by_cases e1 : m.layers.length <= 8
 case neg =>
  have HF : Hid (R = false) := by unfold Hid; rw [<- HRd.out, decide_eq_false e1]; rfl
  go_wp2
  go_ret
  exact ⟨ret_bool HF.out.symm, HB.out⟩
 by_cases e2 : sz <= 30
 case neg =>
  have HF : Hid (R = false) := by unfold Hid; rw [<- HRd.out, decide_eq_false e2, Bool.false_and, Bool.and_false]
  have t2 : decide (30 < sz) = true := decide_eq_true (by omega)
  go_wp2_with fail
  refine HS.out.mono ?_
  rintro e w' ⟨rfl, rfl⟩
  go_wp2
  go_ret
  exact ⟨ret_bool HF.out.symm, HB.out⟩
 have t2 : decide (30 < sz) = false := decide_eq_false (by omega)
 by_cases e3 : L.length <= 30
 case neg =>
  have HF : Hid (R = false) := by unfold Hid; rw [<- HRd.out, decide_eq_false e3, Bool.false_and, Bool.and_false, Bool.and_false]
  go_wp2_with fail
  refine HS.out.mono ?_
  rintro e w' ⟨rfl, rfl⟩
  go_wp2
  go_ret
  exact ⟨ret_bool HF.out.symm, HB.out⟩
 by_cases e4 : m.input.length <= 8
 case neg =>
  have HF : Hid (R = false) := by unfold Hid; rw [<- HRd.out, decide_eq_false e4, Bool.false_and, Bool.and_false, Bool.and_false, Bool.and_false]
  go_wp2_with fail
  refine HS.out.mono ?_
  rintro e w' ⟨rfl, rfl⟩
  go_wp2
  go_ret
  exact ⟨ret_bool HF.out.symm, HB.out⟩
 have HRe : Hid ((m.layers.all okLay && littleL L) = R) := by have := HRd.out; rw [decide_eq_true e1, decide_eq_true e2, decide_eq_true e3, decide_eq_true e4] at this; exact this
 go_wp2_with fail
 refine HS.out.mono ?_
 rintro e w' ⟨rfl, rfl⟩
 go_wp2
 clear x0 x1 xf xlt
 go_loopw [5] (fun i wr => ∃ j : Nat, j <= m.layers.length /\ i = .int .i64 (j : Int) /\ Hid ((m.layers.take j).all okLay = true) /\ Hid (Below W.heap.size W wr)) (fun i _ => m.layers.length - (intOf i).toNat)
 case atStart => exact ⟨0, Nat.zero_le _, rfl, rfl, Below.refl _ _⟩
 case round =>
  obtain ⟨j, hj, rfl, HA, HW⟩ := hrel
  have HBw := hid (HB.out.trans (HW.out.mono HB.out.size))
  obtain ⟨x0, x1, xf, xlt⟩ := HX.out.below HW.out
  by_cases hlt : j < m.layers.length
  ·obtain ⟨bl, ol, l, ha2, hbl, hl, b1, b2, d1, d2, ⟨l0, l1, l2, l3, l4, l5, l6, l7, l8⟩, r1, r2⟩ := (H2.out.below HBw.out).pick hlt
   have HT := hid (allO_take hl)
   have hmem := List.mem_of_getElem? hl
   have HM := hid hmem
   have hle := HSh.out l hmem
   have p1 := r1.len
   have p2 := r2.len
   have hal : Below wr.heap.size wr (wr.alloc (layO l b1 d1 b2 d2 42)) := (Below.refl _ _).alloc (Nat.le_refl _) _
   have HAl := hid (HW.out.trans (hal.mono HW.out.size))
   have HR1 := hid (r1.below hal)
   have HR2 := hid (r2.below hal)
   have HBx9 := hid (Box9.alloc wr (.int .i64 l.kind) (.int .i64 l.frm) (.int .i64 l.out) (.int .i64 l.kh) (.int .i64 l.kw) (.int .i64 l.stride) (.int .i64 l.pad) (.slice b1 l.weights.length d1) (.slice b2 l.bias.length d2) 42)
   have HNo : Hid (okLay l = false -> R = false) := fun hf => by
    have : m.layers.all okLay = false := by rw [List.all_eq_false]; exact ⟨l, HM.out, by simp [hf]⟩
    rw [<- HRe.out, this]; rfl
   have HLe := hid hle
   subst ha2
   clear hl r1 r2 hal hmem hle
   go_upto_region 7 with fail
   generalize wr.alloc (layO l b1 d1 b2 d2 42) = wj at *
   clear l0 l1 l2 l3 l4 l5 l6 l7 l8
   obtain ⟨l0, l1, l2, l3, l4, l5, l6, l7, l8, l9⟩ := HBx9.out
   have HK1 := hid (kLittle d1 HR1.out HLe.out.wts)
   by_cases g1 : l.weights.length <= 60
   case neg =>
    have HF : Hid (R = false) := HNo.out (by unfold okLay; rw [decide_eq_false g1]; rfl)
    go_wp2
    go_ret
    exact ⟨ret_bool HF.out.symm, HB.out.trans (HAl.out.mono HB.out.size)⟩
   by_cases g2 : l.bias.length <= 60
   case neg =>
    have HF : Hid (R = false) := HNo.out (by unfold okLay; rw [decide_eq_false g2, Bool.false_and, Bool.and_false])
    go_wp2
    go_ret
    exact ⟨ret_bool HF.out.symm, HB.out.trans (HAl.out.mono HB.out.size)⟩
   have HOk : Hid (okLay l = (littleL l.weights && littleL l.bias)) := by unfold Hid okLay; rw [decide_eq_true g1, decide_eq_true g2]; rfl
   cases hk1 : littleL l.weights with
   | false =>
    rw [hk1] at HK1
    have HF : Hid (R = false) := HNo.out (by rw [HOk.out, hk1]; rfl)
    clear hk1
    go_wp2_with fail
    refine HK1.out.mono ?_
    rintro e w2 ⟨rfl, hb2⟩
    have HB2 := hid (HAl.out.trans (hb2.mono HAl.out.size))
    clear hb2
    go_wp2
    go_ret
    exact ⟨ret_bool HF.out.symm, HB.out.trans (HB2.out.mono HB.out.size)⟩
   | true =>
    rw [hk1] at HK1 HOk
    rw [Bool.true_and] at HOk
    clear hk1
    go_wp2_with fail
    refine HK1.out.mono ?_
    rintro e w2 ⟨rfl, hb2⟩
    have HB2 := hid (HAl.out.trans (hb2.mono HAl.out.size))
    have HBy := hid (HBx9.out.below hb2)
    have HK2 := hid (kLittle d2 (HR2.out.below hb2) HLe.out.bias)
    clear hb2 l0 l1 l2 l3 l4 l5 l6 l7 l8 l9 HK1
    obtain ⟨l0, l1, l2, l3, l4, l5, l6, l7, l8, l9⟩ := HBy.out
    cases hk2 : littleL l.bias with
    | false =>
     rw [hk2] at HK2 HOk
     have HF : Hid (R = false) := HNo.out HOk.out
     clear hk2
     go_wp2_with fail
     refine HK2.out.mono ?_
     rintro e w3 ⟨rfl, hb3⟩
     have HB3 := hid (HB2.out.trans (hb3.mono HB2.out.size))
     clear hb3
     go_wp2
     go_ret
     exact ⟨ret_bool HF.out.symm, HB.out.trans (HB3.out.mono HB.out.size)⟩
    | true =>
     rw [hk2] at HK2 HOk
     have HA2 : Hid ((m.layers.take (j + 1)).all okLay = true) := by unfold Hid; rw [HT.out, HA.out, HOk.out]; rfl
     clear hk2
     go_wp2_with fail
     refine HK2.out.mono ?_
     rintro e w3 ⟨rfl, hb3⟩
     have HB3 := hid (HB2.out.trans (hb3.mono HB2.out.size))
     clear hb3 l0 l1 l2 l3 l4 l5 l6 l7 l8 l9
     go_wp2
     go_roundw
     case rel => exact ⟨j + 1, hlt, by go_num, HA2.out, HB3.out⟩
     case measure => simp [intOf]; omega
  ·obtain rfl : j = m.layers.length := by omega
   have HE : Hid (littleL L = R) := by
    have := HA.out
    rw [List.take_length] at this
    unfold Hid
    rw [<- HRe.out, this]; rfl
   have HV := hid (kLittle cx (HX0.out.below HBw.out) HL.out)
   go_wp2_with fail
   refine HV.out.mono ?_
   rintro e w2 ⟨rfl, hb2⟩
   have HB2 := hid (HBw.out.trans (hb2.mono HBw.out.size))
   clear hb2
   rw [HE.out]
   go_wp2
   go_ret
   exact ⟨rfl, HB2.out⟩
end Go.Proofs.YtoppijdedkdjeaaGreat
