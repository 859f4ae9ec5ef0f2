/-
  Contracts of the functions that the statement reaches: EvG, EvL, LwA, EvR, EvU, EvT.
-/
import Derived.Test.YtoppijdedkdjeaaGreatC29
set_option linter.unusedVariables false
set_option linter.unusedSimpArgs false
set_option linter.constructorNameAsVariable false
set_option linter.deprecated false
set_option maxRecDepth 100000
set_option maxHeartbeats 3200000
namespace Go.Proofs.YtoppijdedkdjeaaGreat
open Go.RowKit
open Go.Lib (hid)
theorem r14Flat {w : World} {fr ot kh kw st pd : Int} {a1 a2 ax aS af : Option Addr} {x y : List Rat} (n1 c1 n2 c2 cx nS cS nf cf : Nat)
  (hX : RatsAt w ax (x.map ratL)) (hx2 : x.length <= 1000000) :
  Calls Tryz.prog 39 #[layVal 6 fr ot kh kw st pd a1 n1 c1 a2 n2 c2, .slice aS nS cS, .slice ax x.length cx, .slice af nf cf] w (RowRet w (((List.range x.length).map (fun k => x.getD k 0)).map ratL)) := by
 have hxl' := hX.len
 simp only [List.length_map] at hxl'
 have HX := hid hX
 have HLB := hid (LBox.alloc w 6 fr ot kh kw st pd a1 n1 c1 a2 n2 c2 42)
 have HB1 := hid ((Below.refl w.heap.size w).alloc (Nat.le_refl _) (.cells #[.int .i64 6, .int .i64 fr, .int .i64 ot, .int .i64 kh, .int .i64 kw, .int .i64 st, .int .i64 pd, .slice a1 n1 c1, .slice a2 n2 c2] 42))
 obtain ⟨FF, hFF⟩ : ∃ FF : Nat -> Rat, FF = (fun k => x.getD k 0) := ⟨_, rfl⟩
 rw [<- hFF]
 have HFF := hid hFF
 clear hX hFF
 unfold layVal
 go_enter Tryz.func39, Tryz.ntmps39
 go_upto_region 1 with fail
 generalize w.alloc (.cells #[.int .i64 6, .int .i64 fr, .int .i64 ot, .int .i64 kh, .int .i64 kw, .int .i64 st, .int .i64 pd, .slice a1 n1 c1, .slice a2 n2 c2] 42) = Wx at *
 have f0 := HLB.out.f0
 go_wp2
 clear f0
 go_loopw [9, 27] (fun v i wr => ∃ (k : Nat) (a : Option Addr) (c : Nat), k <= x.length /\ v = .slice a k c /\ i = .int .i64 (k : Int) /\ Hid (OutI Wx wr (.slice a k c) (((List.range k).map FF).map ratL))) (fun _ i _ => x.length - (intOf i).toNat)
 case atStart => exact ⟨0, none, 0, Nat.zero_le _, rfl, rfl, OutI.start Wx⟩
 case round =>
  obtain ⟨k, b0, k0, hk, rfl, rfl, HOut⟩ := hrel
  have HLr := hid (HLB.out.below HOut.out.bl HLB.out.lt)
  by_cases hlt : k < x.length
  ·have hbr : Below w.heap.size w wr := HB1.out.trans (HOut.out.bl.mono HB1.out.size)
   obtain ⟨bx, ox, u, un, ud, ucn, ucd, rfl, hbx, hu, uc0, uc1, uc2, huv⟩ := HX.out.pick (k := k) (by rw [List.length_map]; omega)
   obtain ⟨hu1, hu2⟩ := map_get hu
   have HU := hid hu2
   obtain ⟨_, _, _, _, hue, u2, u3, u4, u5⟩ := (huv.below hbr).ex
   cases hue
   have e0 := (hbr.cell (p := ⟨bx, ox + k * 3, none⟩) hbx).trans uc0
   have e1 := (hbr.cell (p := ⟨bx, ox + k * 3 + 1, none⟩) hbx).trans uc1
   have e2 := (hbr.cell (p := ⟨bx, ox + k * 3 + 2, none⟩) hbx).trans uc2
   have HBx0 := hid (RBox.alloc u2 u3 u4 u5 37)
   have HB2 := hid ((Below.refl wr.heap.size wr).alloc (Nat.le_refl _) (ratO u un ucn ud ucd 37))
   have HBr := hid hbr
   have HLn : Hid ((((List.range k).map FF).map ratL).length = k) := by unfold Hid; simp
   have HSuc : Hid (((List.range (k + 1)).map FF).map ratL = ((List.range k).map FF).map ratL ++ [ratL (FF k)]) := by unfold Hid; simp [List.range_succ]
   clear hu hu1 hu2 huv hbr uc0 uc1 uc2 u4 u5
   go_upto_region 7 with fail
   clear e0 e1 e2
   generalize wr.alloc (ratO u un ucn ud ucd 37) = W2 at *
   have f0 := (HLr.out.below HB2.out HLr.out.lt).f0
   obtain ⟨rn, rd, rcn, rcd, rbx, r2, r3, r4, r5⟩ := HBx0.out.ex
   go_upto_region 11 with fail
   clear f0
   have HStep := HSuc
   rw [show ratL (FF k) = u by rw [HFF.out]; exact HU.out.symm] at HStep
   have hse : ∃ s1, s1 = u := ⟨_, rfl⟩
   obtain ⟨s1, hse⟩ := hse
   have hWe : ∃ W3, W3 = W2 := ⟨_, rfl⟩
   obtain ⟨W3, hWe⟩ := hWe
   subst hse hWe
   have HBe := HB2
   have HRow1 := hid (Row1.alloc r2 r3 r4 r5 37)
   have hal : Below W3.heap.size W3 (W3.alloc (ratO s1 rn rcn rd rcd 37)) := (Below.refl _ _).alloc (Nat.le_refl _) _
   have HOw2 := hid ((HOut.out.below HBe.out).below hal)
   obtain ⟨z0, z1, z2, _, zlt⟩ := rbx
   clear r4 r5 hal
   go_wp2_with (at_builtin; refine wpList_appR rfl (.tmp 56) (.tmp 58) 26 rfl Wx.heap.size Tryz.underlying26 Tryz.infoRat (.slice b0 k k0) k _ HLn.out rfl HOw2.out.own _ s1 HRow1.out rfl (by omega) HOw2.out.bl.size ?_; intro b3 k3 w3 hown hk3 hg hbe; have HOut3 := hid (show OutI Wx w3 (.slice b3 (k + 1) k3) (((List.range (k + 1)).map FF).map ratL) from ⟨by rw [HStep.out]; exact hown, HOw2.out.bl.trans hbe⟩); clear hown hg hbe)
   go_roundw
   case rel => exact ⟨k + 1, b3, k3, hlt, rfl, by go_num, HOut3.out⟩
   case measure => simp [intOf]; omega
  ·obtain rfl : k = x.length := by omega
   go_wp2
   have hNP : RowRet w (((List.range x.length).map FF).map ratL) (.returned (.slice b0 x.length k0)) wr := HOut.out.ret (by simp) (by omega) HB1.out
   exact bodyPost_ret (v := .slice b0 x.length k0) (by simp [results, Tryz.results39, go_sem]) rfl hNP
theorem r14Relu {w : World} {fr ot kh kw st pd : Int} {a1 a2 ax aS af : Option Addr} {x y : List Rat} (n1 c1 n2 c2 cx nS cS nf cf : Nat)
  (hX : RatsAt w ax (x.map ratL)) (hx2 : x.length <= 1000000) (hx1 : ∀ q ∈ x, RatLe (ratL q) 524286) :
  Calls Tryz.prog 39 #[layVal 5 fr ot kh kw st pd a1 n1 c1 a2 n2 c2, .slice aS nS cS, .slice ax x.length cx, .slice af nf cf] w (RowRet w (((List.range x.length).map (fun k => maxQ (x.getD k 0) 0)).map ratL)) := by
 have hxl' := hX.len
 simp only [List.length_map] at hxl'
 have HX := hid hX
 have Hx1 := hid hx1
 clear hx1
 have HLB := hid (LBox.alloc w 5 fr ot kh kw st pd a1 n1 c1 a2 n2 c2 42)
 have HB1 := hid ((Below.refl w.heap.size w).alloc (Nat.le_refl _) (.cells #[.int .i64 5, .int .i64 fr, .int .i64 ot, .int .i64 kh, .int .i64 kw, .int .i64 st, .int .i64 pd, .slice a1 n1 c1, .slice a2 n2 c2] 42))
 obtain ⟨FF, hFF⟩ : ∃ FF : Nat -> Rat, FF = (fun k => maxQ (x.getD k 0) 0) := ⟨_, rfl⟩
 rw [<- hFF]
 have HFF := hid hFF
 clear hX hFF
 unfold layVal
 go_enter Tryz.func39, Tryz.ntmps39
 go_upto_region 1 with fail
 generalize w.alloc (.cells #[.int .i64 5, .int .i64 fr, .int .i64 ot, .int .i64 kh, .int .i64 kw, .int .i64 st, .int .i64 pd, .slice a1 n1 c1, .slice a2 n2 c2] 42) = Wx at *
 have f0 := HLB.out.f0
 go_wp2
 clear f0
 go_loopw [9, 27] (fun v i wr => ∃ (k : Nat) (a : Option Addr) (c : Nat), k <= x.length /\ v = .slice a k c /\ i = .int .i64 (k : Int) /\ Hid (OutI Wx wr (.slice a k c) (((List.range k).map FF).map ratL))) (fun _ i _ => x.length - (intOf i).toNat)
 case atStart => exact ⟨0, none, 0, Nat.zero_le _, rfl, rfl, OutI.start Wx⟩
 case round =>
  obtain ⟨k, b0, k0, hk, rfl, rfl, HOut⟩ := hrel
  have HLr := hid (HLB.out.below HOut.out.bl HLB.out.lt)
  by_cases hlt : k < x.length
  ·have hbr : Below w.heap.size w wr := HB1.out.trans (HOut.out.bl.mono HB1.out.size)
   obtain ⟨bx, ox, u, un, ud, ucn, ucd, rfl, hbx, hu, uc0, uc1, uc2, huv⟩ := HX.out.pick (k := k) (by rw [List.length_map]; omega)
   obtain ⟨hu1, hu2⟩ := map_get hu
   have HU := hid hu2
   obtain ⟨_, _, _, _, hue, u2, u3, u4, u5⟩ := (huv.below hbr).ex
   cases hue
   have e0 := (hbr.cell (p := ⟨bx, ox + k * 3, none⟩) hbx).trans uc0
   have e1 := (hbr.cell (p := ⟨bx, ox + k * 3 + 1, none⟩) hbx).trans uc1
   have e2 := (hbr.cell (p := ⟨bx, ox + k * 3 + 2, none⟩) hbx).trans uc2
   have HBx0 := hid (RBox.alloc u2 u3 u4 u5 37)
   have HB2 := hid ((Below.refl wr.heap.size wr).alloc (Nat.le_refl _) (ratO u un ucn ud ucd 37))
   have HBr := hid hbr
   have HLn : Hid ((((List.range k).map FF).map ratL).length = k) := by unfold Hid; simp
   have HSuc : Hid (((List.range (k + 1)).map FF).map ratL = ((List.range k).map FF).map ratL ++ [ratL (FF k)]) := by unfold Hid; simp [List.range_succ]
   clear hu hu1 hu2 huv hbr uc0 uc1 uc2 u4 u5
   go_upto_region 7 with fail
   clear e0 e1 e2
   generalize wr.alloc (ratO u un ucn ud ucd 37) = W2 at *
   have f0 := (HLr.out.below HB2.out HLr.out.lt).f0
   go_upto_region 8 with fail
   clear f0
   obtain ⟨s1, hs1⟩ : ∃ s1, s1 = ratL (FF k) := ⟨_, rfl⟩
   have HStep := HSuc
   rw [<- hs1] at HStep
   obtain ⟨sn, sd, scn, scd, hbxs, s2, s3, s4, s5⟩ := HBx0.out.ex
   have HMx : Hid (Calls Tryz.prog 33 #[.agg #[.bool u.neg, .slice sn u.num.length scn, .slice sd u.den.length scd], .agg #[.bool false, .slice none 0 0, .slice none 0 0]] W2 (RetR W2 s1)) := by
    have h := r3Max (x := u) (y := ratL 0) ⟨sn, sd, scn, scd, rfl, s2, s3, s4, s5⟩ (u := .agg #[.bool false, .slice none 0 0, .slice none 0 0]) (by rw [ratL_zeroE]; exact ⟨none, none, 0, 0, rfl, Nat.le_refl _, Nat.le_refl _, U32s.nil _ _, U32s.nil _ _⟩)
     (by rw [HU.out]; exact Hx1.out _ (by rw [List.getD_eq_getElem?_getD, List.getElem?_eq_getElem hlt]; exact List.getElem_mem _)) ratLe_zero
    rw [ratOf_ratL, HU.out, ratOf_ratL] at h
    rw [hs1, HFF.out]
    rw [HU.out]
    exact h
   obtain ⟨y0, y1, y2, yf, ylt⟩ := hbxs
   clear hs1 s4 s5
   go_wp2_with fail
   refine HMx.out.mono ?_
   rintro e W4 ⟨v4, rfl, kv, kb⟩
   obtain ⟨rn, rd, rcn, rcd, rfl, r2, r3, r4, r5⟩ := kv.ex
   have HBx4 := hid ((HBx0.out.below kb).store r2 r3 r4 r5)
   have HBe := hid (below_store3 (HB2.out.trans (kb.mono HB2.out.size)) (Nat.le_refl _) (.bool s1.neg) (.slice rn s1.num.length rcn) (.slice rd s1.den.length rcd))
   obtain ⟨_, _, _, _, ⟨y0, y1, y2, yf, ylt⟩, _⟩ := (HBx0.out.below kb).ex
   clear kv kb r4 r5
   go_upto_region 9 with fail
   generalize ((W4.setCell ⟨wr.heap.size, 0, none⟩ (.bool s1.neg)).setCell ⟨wr.heap.size, 1, none⟩ (.slice rn s1.num.length rcn)).setCell ⟨wr.heap.size, 2, none⟩ (.slice rd s1.den.length rcd) = W3 at *
   have f0 := (HLr.out.below HBe.out HLr.out.lt).f0
   go_upto_region 11 with fail
   clear f0
   obtain ⟨rn, rd, rcn, rcd, rbx, r2, r3, r4, r5⟩ := HBx4.out.ex
   have HRow1 := hid (Row1.alloc r2 r3 r4 r5 37)
   have hal : Below W3.heap.size W3 (W3.alloc (ratO s1 rn rcn rd rcd 37)) := (Below.refl _ _).alloc (Nat.le_refl _) _
   have HOw2 := hid ((HOut.out.below HBe.out).below hal)
   obtain ⟨z0, z1, z2, _, zlt⟩ := rbx
   clear r4 r5 hal
   go_wp2_with (at_builtin; refine wpList_appR rfl (.tmp 56) (.tmp 58) 26 rfl Wx.heap.size Tryz.underlying26 Tryz.infoRat (.slice b0 k k0) k _ HLn.out rfl HOw2.out.own _ s1 HRow1.out rfl (by omega) HOw2.out.bl.size ?_; intro b3 k3 w3 hown hk3 hg hbe; have HOut3 := hid (show OutI Wx w3 (.slice b3 (k + 1) k3) (((List.range (k + 1)).map FF).map ratL) from ⟨by rw [HStep.out]; exact hown, HOw2.out.bl.trans hbe⟩); clear hown hg hbe)
   go_roundw
   case rel => exact ⟨k + 1, b3, k3, hlt, rfl, by go_num, HOut3.out⟩
   case measure => simp [intOf]; omega
  ·obtain rfl : k = x.length := by omega
   go_wp2
   have hNP : RowRet w (((List.range x.length).map FF).map ratL) (.returned (.slice b0 x.length k0)) wr := HOut.out.ret (by simp) (by omega) HB1.out
   exact bodyPost_ret (v := .slice b0 x.length k0) (by simp [results, Tryz.results39, go_sem]) rfl hNP
theorem r14AddL {w : World} {fr ot kh kw st pd : Int} {a1 a2 ax aS af : Option Addr} {x y : List Rat} (n1 c1 n2 c2 cx nS cS cf : Nat)
  (hX : RatsAt w ax (x.map ratL)) (hx2 : x.length <= 1000000) (hY : RatsAt w af (y.map ratL)) (hyl : x.length <= y.length) (hx1 : ∀ q ∈ x, RatLe (ratL q) 524286) (hy1 : ∀ q ∈ y, RatLe (ratL q) 524286) :
  Calls Tryz.prog 39 #[layVal 7 fr ot kh kw st pd a1 n1 c1 a2 n2 c2, .slice aS nS cS, .slice ax x.length cx, .slice af y.length cf] w (RowRet w (((List.range x.length).map (fun k => x.getD k 0 + y.getD k 0)).map ratL)) := by
 have hxl' := hX.len
 simp only [List.length_map] at hxl'
 have HX := hid hX
 have Hx1 := hid hx1
 have Hy1 := hid hy1
 have HY := hid hY
 clear hx1 hy1 hY
 have HLB := hid (LBox.alloc w 7 fr ot kh kw st pd a1 n1 c1 a2 n2 c2 42)
 have HB1 := hid ((Below.refl w.heap.size w).alloc (Nat.le_refl _) (.cells #[.int .i64 7, .int .i64 fr, .int .i64 ot, .int .i64 kh, .int .i64 kw, .int .i64 st, .int .i64 pd, .slice a1 n1 c1, .slice a2 n2 c2] 42))
 obtain ⟨FF, hFF⟩ : ∃ FF : Nat -> Rat, FF = (fun k => x.getD k 0 + y.getD k 0) := ⟨_, rfl⟩
 rw [<- hFF]
 have HFF := hid hFF
 clear hX hFF
 unfold layVal
 go_enter Tryz.func39, Tryz.ntmps39
 go_upto_region 1 with fail
 generalize w.alloc (.cells #[.int .i64 7, .int .i64 fr, .int .i64 ot, .int .i64 kh, .int .i64 kw, .int .i64 st, .int .i64 pd, .slice a1 n1 c1, .slice a2 n2 c2] 42) = Wx at *
 have f0 := HLB.out.f0
 go_wp2
 clear f0
 go_loopw [9, 27] (fun v i wr => ∃ (k : Nat) (a : Option Addr) (c : Nat), k <= x.length /\ v = .slice a k c /\ i = .int .i64 (k : Int) /\ Hid (OutI Wx wr (.slice a k c) (((List.range k).map FF).map ratL))) (fun _ i _ => x.length - (intOf i).toNat)
 case atStart => exact ⟨0, none, 0, Nat.zero_le _, rfl, rfl, OutI.start Wx⟩
 case round =>
  obtain ⟨k, b0, k0, hk, rfl, rfl, HOut⟩ := hrel
  have HLr := hid (HLB.out.below HOut.out.bl HLB.out.lt)
  by_cases hlt : k < x.length
  ·have hbr : Below w.heap.size w wr := HB1.out.trans (HOut.out.bl.mono HB1.out.size)
   obtain ⟨bx, ox, u, un, ud, ucn, ucd, rfl, hbx, hu, uc0, uc1, uc2, huv⟩ := HX.out.pick (k := k) (by rw [List.length_map]; omega)
   obtain ⟨hu1, hu2⟩ := map_get hu
   have HU := hid hu2
   obtain ⟨_, _, _, _, hue, u2, u3, u4, u5⟩ := (huv.below hbr).ex
   cases hue
   have e0 := (hbr.cell (p := ⟨bx, ox + k * 3, none⟩) hbx).trans uc0
   have e1 := (hbr.cell (p := ⟨bx, ox + k * 3 + 1, none⟩) hbx).trans uc1
   have e2 := (hbr.cell (p := ⟨bx, ox + k * 3 + 2, none⟩) hbx).trans uc2
   have HBx0 := hid (RBox.alloc u2 u3 u4 u5 37)
   have HB2 := hid ((Below.refl wr.heap.size wr).alloc (Nat.le_refl _) (ratO u un ucn ud ucd 37))
   have HBr := hid hbr
   have HLn : Hid ((((List.range k).map FF).map ratL).length = k) := by unfold Hid; simp
   have HSuc : Hid (((List.range (k + 1)).map FF).map ratL = ((List.range k).map FF).map ratL ++ [ratL (FF k)]) := by unfold Hid; simp [List.range_succ]
   clear hu hu1 hu2 huv hbr uc0 uc1 uc2 u4 u5
   go_upto_region 7 with fail
   clear e0 e1 e2
   generalize wr.alloc (ratO u un ucn ud ucd 37) = W2 at *
   have f0 := (HLr.out.below HB2.out HLr.out.lt).f0
   obtain ⟨s1, hs1⟩ : ∃ s1, s1 = ratL (FF k) := ⟨_, rfl⟩
   have HStep := HSuc
   rw [<- hs1] at HStep
   obtain ⟨un', ud', ucn', ucd', hbxs, s2, s3, s4, s5⟩ := HBx0.out.ex
   have hb2 : Below w.heap.size w W2 := HBr.out.trans (HB2.out.mono HBr.out.size)
   obtain ⟨by_, oy, v, vn, vd, vcn, vcd, rfl, hby, hv, vc0, vc1, vc2, hvv⟩ := HY.out.pick (k := k) (by rw [List.length_map]; omega)
   obtain ⟨hv1, hv2⟩ := map_get hv
   have HAd : Hid (∀ W, Below W2.heap.size W2 W -> Calls Tryz.prog 22 #[.agg #[.bool u.neg, .slice un' u.num.length ucn', .slice ud' u.den.length ucd'], .agg #[.bool v.neg, .slice vn v.num.length vcn, .slice vd v.den.length vcd]] W (RetR W s1)) := fun W hb => by
    have h := r3Add (x := u) (y := v) ⟨un', ud', ucn', ucd', rfl, s2, s3, s4.below hb, s5.below hb⟩ (hvv.below (hb2.trans (hb.mono hb2.size)))
     (by rw [HU.out]; exact Hx1.out _ (by rw [List.getD_eq_getElem?_getD, List.getElem?_eq_getElem hlt]; exact List.getElem_mem _))
     (by rw [hv2]; exact Hy1.out _ (by rw [List.getD_eq_getElem?_getD, List.getElem?_eq_getElem (by omega)]; exact List.getElem_mem _))
    rw [hv1, HU.out, ratOf_ratL] at h
    rw [hs1, HFF.out]
    rw [HU.out]
    exact h
   have HCe : Hid (∀ W, Below W2.heap.size W2 W -> W.cell? ⟨wr.heap.size, 0, none⟩ = some (.bool u.neg) /\ W.cell? ⟨wr.heap.size, 1, none⟩ = some (.slice un' u.num.length ucn') /\ W.cell? ⟨wr.heap.size, 2, none⟩ = some (.slice ud' u.den.length ucd') /\
     W.cell? ⟨by_, oy + k * 3, none⟩ = some (.bool v.neg) /\ W.cell? ⟨by_, oy + k * 3 + 1, none⟩ = some (.slice vn v.num.length vcn) /\ W.cell? ⟨by_, oy + k * 3 + 2, none⟩ = some (.slice vd v.den.length vcd)) := fun W hb => by
    have hbw := hb2.trans (hb.mono hb2.size)
    exact ⟨(hb.cell hbxs.lt).trans hbxs.c0, (hb.cell hbxs.lt).trans hbxs.c1, (hb.cell hbxs.lt).trans hbxs.c2, (hbw.cell hby).trans vc0, (hbw.cell hby).trans vc1, (hbw.cell hby).trans vc2⟩
   have hky : k < y.length := by omega
   clear hs1 hbxs s4 s5 hb2 hv hv1 hv2 hvv vc0 vc1 vc2
   go_upto_region 10 with fail
   clear f0
   refine wp_region_slots_tail 6 (by kernel_rfl) (by kernel_rfl) (by kernel_rfl) (by kernel_rfl) (by decide) (From W2.heap.size W2) (fun w w' => Below w.heap.size w w') (GR [.val (.agg #[.bool u.neg, .slice un' u.num.length ucn', .slice ud' u.den.length ucd']), .val (.slice (some ⟨by_, oy, none⟩) y.length cf), .val (.int .i64 (k : Int)), .val (.pointer (some ⟨by_, oy + k * 3, none⟩)), .val (.agg #[.bool v.neg, .slice vn v.num.length vcn, .slice vd v.den.length vcd]), .rat s1]) (fun i v w w' h hb => GR_below h hb) (From.start (Nat.le_refl _)) ?_ ?_
   ·intro ops
    simp only [List.take_succ_cons, List.take_zero, Shows]
    refine ⟨?_, ?_, ?_, ?_, ?_, ?_, trivial⟩
    all_goals (intro g W hR hL; have hB := hR.base; obtain ⟨x0, x1, x2, v0, v1, v2⟩ := HCe.out W hR.be; simp only [Laid, Region.binds, forall_const, Bool.false_eq_true, false_implies, GR, List.getElem?_cons_zero, List.getElem?_cons_succ] at hL; simp [fillFrom, Act.put])
    ·clear hL
     have HR := hid hR
     clear hR
     go_wp2
     exact ⟨_, rfl, HR.out, Below.refl _ _, rfl⟩
    ·clear hL
     have HR := hid hR
     clear hR
     go_wp2
     exact ⟨_, rfl, HR.out, Below.refl _ _, rfl⟩
    ·clear hL
     have HR := hid hR
     clear hR
     go_wp2
     exact ⟨_, rfl, HR.out, Below.refl _ _, rfl⟩
    ·generalize g 1 = y1 at hL ⊢
     generalize g 2 = y2 at hL ⊢
     obtain ⟨rfl, rfl, _⟩ := hL
     have HR := hid hR
     clear hR
     go_wp2
     exact ⟨_, rfl, HR.out, Below.refl _ _, rfl⟩
    ·generalize g 3 = y3 at hL ⊢
     obtain ⟨rfl, _⟩ := hL
     have HR := hid hR
     clear hR
     go_wp2
     exact ⟨_, rfl, HR.out, Below.refl _ _, rfl⟩
    ·generalize g 0 = y0 at hL ⊢
     generalize g 4 = y4 at hL ⊢
     obtain ⟨rfl, rfl, _⟩ := hL
     have HR := hid hR
     clear hR
     have HCt := hid (HAd.out W HR.out.be)
     go_wp2_with fail
     refine HCt.out.mono ?_
     rintro e w1 ⟨v1, rfl, kv, kb⟩
     have KV := hid kv
     have KB := hid kb
     clear kv kb HCt
     go_wp2
     exact ⟨_, rfl, ⟨Nat.le_trans HR.out.base KB.out.size, HR.out.be.trans (KB.out.mono HR.out.base)⟩, KB.out, KV.out⟩
   ·intro ops g W hR hL
    have hB := hR.base
    have J5 := hL.2
    simp only [GR, List.getElem?_cons_zero, List.getElem?_cons_succ] at J5
    obtain ⟨x0, x1, x2, v0, v1, v2⟩ := HCe.out W hR.be
    clear hL
    simp only [List.take_succ_cons, List.take_zero, List.drop_succ_cons, List.drop_zero]
    simp [fillFrom, Act.put]
    generalize g 5 = y5 at J5 ⊢
    have HR := hid hR
    clear hR
    obtain ⟨rn, rd, rcn, rcd, rfl, r2, r3, r4, r5⟩ := J5.ex
    have HBw := hid (show Below W2.heap.size W2 W from HR.out.be)
    have HBx4 := hid ((HBx0.out.below HBw.out).store r2 r3 r4 r5)
    have HBe := hid (below_store3 (HB2.out.trans (HBw.out.mono HB2.out.size)) (Nat.le_refl _) (.bool s1.neg) (.slice rn s1.num.length rcn) (.slice rd s1.den.length rcd))
    obtain ⟨_, _, _, _, ⟨y0, y1, y2, yf, ylt⟩, _⟩ := (HBx0.out.below HBw.out).ex
    clear J5 r4 r5
    go_upto_region 11 with fail
    generalize ((W.setCell ⟨wr.heap.size, 0, none⟩ (.bool s1.neg)).setCell ⟨wr.heap.size, 1, none⟩ (.slice rn s1.num.length rcn)).setCell ⟨wr.heap.size, 2, none⟩ (.slice rd s1.den.length rcd) = W3 at *
    obtain ⟨rn, rd, rcn, rcd, rbx, r2, r3, r4, r5⟩ := HBx4.out.ex
    have HRow1 := hid (Row1.alloc r2 r3 r4 r5 37)
    have hal : Below W3.heap.size W3 (W3.alloc (ratO s1 rn rcn rd rcd 37)) := (Below.refl _ _).alloc (Nat.le_refl _) _
    have HOw2 := hid ((HOut.out.below HBe.out).below hal)
    obtain ⟨z0, z1, z2, _, zlt⟩ := rbx
    clear r4 r5 hal
    go_wp2_with (at_builtin; refine wpList_appR rfl (.tmp 56) (.tmp 58) 26 rfl Wx.heap.size Tryz.underlying26 Tryz.infoRat (.slice b0 k k0) k _ HLn.out rfl HOw2.out.own _ s1 HRow1.out rfl (by omega) HOw2.out.bl.size ?_; intro b3 k3 w3 hown hk3 hg hbe; have HOut3 := hid (show OutI Wx w3 (.slice b3 (k + 1) k3) (((List.range (k + 1)).map FF).map ratL) from ⟨by rw [HStep.out]; exact hown, HOw2.out.bl.trans hbe⟩); clear hown hg hbe)
    go_roundw
    case rel => exact ⟨k + 1, b3, k3, hlt, rfl, by go_num, HOut3.out⟩
    case measure => simp [intOf]; omega
  ·obtain rfl : k = x.length := by omega
   go_wp2
   have hNP : RowRet w (((List.range x.length).map FF).map ratL) (.returned (.slice b0 x.length k0)) wr := HOut.out.ret (by simp) (by omega) HB1.out
   exact bodyPost_ret (v := .slice b0 x.length k0) (by simp [results, Tryz.results39, go_sem]) rfl hNP
theorem Bd.small {D B M N k : Nat} {q : Rat} (h : Bd D B q) (hD : D <= M) (hB : B <= N) (hk : N * M + M < 4294967296 ^ k) : RatLe (ratL q) k :=
 h.le (Nat.lt_of_le_of_lt (Nat.add_le_add (Nat.mul_le_mul hB hD) hD) hk)
theorem validR_back : ∀ {L : List RatL}, L.all validR = true -> L = (L.map ratOf).map ratL
 | [], _ => rfl
 | x :: r, h => by
  rw [List.all_cons, Bool.and_eq_true] at h
  have h1 := h.1
  unfold validR at h1
  rw [decide_eq_true_eq, canonL_ratL] at h1
  rw [List.map_cons, List.map_cons, <- validR_back h.2, <- h1]
theorem map_range_getD {α β : Type} (x : List α) (d : α) (f : α -> β) : (List.range x.length).map (fun k => f (x.getD k d)) = x.map f := by
 refine List.ext_getElem? fun i => ?_
 rw [List.getElem?_map, List.getElem?_map]
 by_cases hi : i < x.length
 ·rw [List.getElem?_range hi, List.getElem?_eq_getElem hi]
  simp [List.getD, hi]
 ·rw [List.getElem?_eq_none (by simpa using hi), List.getElem?_eq_none (by omega)]; rfl
theorem reluQ_range (x : List Rat) : reluQ x = (List.range x.length).map fun k => maxQ (x.getD k 0) 0 := (map_range_getD x 0 fun q => maxQ q 0).symm
theorem same_range (x : List Rat) : x = (List.range x.length).map fun k => x.getD k 0 := by
 have := map_range_getD x 0 (fun q : Rat => q)
 rw [List.map_id'] at this
 exact this.symm
def Room (D B : Nat) : Prop := (9671406556917033397649408 * B) * (D * 4294967296 ^ 121) + D * 4294967296 ^ 121 < 4294967296 ^ 524285
theorem Room.bd {D B D' B' : Nat} {q : Rat} (h : Room D B) (hq : Bd D' B' q) (hD : D' <= D * 4294967296 ^ 121) (hB : B' <= 9671406556917033397649408 * B) : RatLe (ratL q) 524285 := hq.small hD hB h
theorem r14Layer {w : World} {l : LayL} {s : List Int} {x y : List Rat} {a1 a2 aS ax af : Option Addr} {F : Nat -> Prop} {D B : Nat} (c1 c2 cS cx nf cf : Nat) (hf : FitL l s) (hn : numsB l = true) (hx : (x.length : Int) = sizeL s) (hxl : x.length <= 16384) (hx1 : 1 <= x.length)
  (h1 : RatsAt w a1 l.weights) (h2 : RatsAt w a2 l.bias) (hc : l.weights.length <= c1) (hS : Ints w F aS s) (hX : RatsAt w ax (x.map ratL)) (hy : l.kind = 7 -> nf = y.length /\ RatsAt w af (y.map ratL) /\ x.length <= y.length)
  (hsm : SmallL l) (hxB : BdL D B x) (hyB : BdL D B y) (hD : 0 < D) (hB : 1 <= B) (hR : Room D B) :
  Calls Tryz.prog 39 #[layVal l.kind l.frm l.out l.kh l.kw l.stride l.pad a1 l.weights.length c1 a2 l.bias.length c2, .slice aS s.length cS, .slice ax x.length cx, .slice af nf cf] w (RowRet w ((layQ l s x y).map ratL)) := by
 unfold numsB at hn
 rw [Bool.and_eq_true] at hn
 have hw : l.weights = (wq l).map ratL := validR_back hn.1
 have hb : l.bias = (bq l).map ratL := validR_back hn.2
 have hwl : l.weights.length = (wq l).length := by simp [wq]
 have hbl : l.bias.length = (bq l).length := by simp [bq]
 have pp : D * 1 <= D * 4294967296 ^ 121 := Nat.mul_le_mul_left _ (Nat.one_le_pow _ _ (by omega))
 rw [Nat.mul_one] at pp
 have hBB : B <= 9671406556917033397649408 * B := by omega
 have hxR : ∀ q ∈ x, RatLe (ratL q) 524285 := fun q hq => hR.bd (hxB q hq) pp hBB
 rw [hw] at h1
 rw [hb] at h2
 have wide : ∀ W : Nat, W <= 4294967296 ^ (wq l ++ bq l).length -> W * D <= D * 4294967296 ^ 121 := fun W h => by
  rw [Nat.mul_comm]
  exact Nat.mul_le_mul_left _ (Nat.le_trans h (Nat.pow_le_pow_right (by omega) hsm.len))
 have part : ∀ {n k : Nat}, n <= 262144 -> k <= n -> 18446744073709551616 + k * (18446744073709551616 * B) <= 9671406556917033397649408 * B := fun hn hk => grow_le (Nat.le_trans hk hn) hB
 obtain ⟨W, w1, w2, w3⟩ := BdL.small _ hsm.num
 have hwW : BdL W 18446744073709551616 (wq l) := fun q hq => w3 q (List.mem_append_left _ hq)
 have hbW : BdL W 18446744073709551616 (bq l) := fun q hq => w3 q (List.mem_append_right _ hq)
 have hWD := wide W w2
 have hWD1 : W <= W * D := Nat.le_mul_of_pos_right _ hD
 have hwR : ∀ q ∈ wq l, RatLe (ratL q) 1048575 := fun q hq => (hR.bd (hwW q hq) (by omega) (by omega)).mono (by omega)
 have hpR : ∀ p ∈ wq l, ∀ q ∈ x, RatLe (ratL (p * q)) 524286 := fun p hp q hq => (hR.bd ((hwW p hp).mul (hxB q hq)) hWD (by omega)).mono (by omega)
 have hsR : ∀ (r lo n : Nat) (ix : List Int) (k : Nat), k <= 262144 -> RatLe (ratL (psum ((bq l).getD r 0) (partL (wq l) lo n) 0 ix x k)) 524286 := fun r lo n ix k hk =>
  (hR.bd (Bd.psum (hbW.at w1 r) (hwW.part lo n) hxB hD 0 ix k) hWD (part (Nat.le_refl _) hk)).mono (by omega)
 unfold layQ
 rw [hwl, hbl]
 rw [hwl] at hc
 cases hf with
 | dense R hk ho h1' h2' hb' hw' =>
  rw [if_pos hk, hk, ho]
  rw [hwl] at hw'
  rw [hbl] at hb'
  have e : (sizeL s).toNat = x.length := by omega
  rw [e] at hw'
  exact r14Dense c1 c2 cx s.length cS nf cf h1 h2 hX hx1 (by omega) (by omega) hc (by omega) (by omega) hwR (fun q hq => (hxR q hq).mono (by omega)) hpR (fun r _ k hk => hsR r _ _ _ k (by omega))
 | conv q O hk hq ht hs' e1 e2 e3 e4 ho h1' hb' hw' hwin hz =>
  rw [hwl] at hw'
  rw [hbl] at hb'
  have hbd := Win.len_bd hq ht
  rw [q.one_len] at hbd
  have hal := q.all_len
  have hkk := Nat.mul_assoc q.C q.kh q.kw
  have hsz : x.length = q.C * q.H * q.W := by
   have h := hx
   have hv : validL s = true := by
    cases hvs : validL s with
    | true => rfl
    | false => rw [sizeL, hvs, if_neg (by decide)] at h; omega
   rw [sizeL, if_pos hv, hs'] at h
   simp only [prodFrom, Int.one_mul] at h
   exact Int.ofNat_inj.1 (by rw [h]; simp)
  have hC : s.getD 0 0 = (q.C : Int) := by rw [hs']; rfl
  rw [if_neg (by omega), if_pos hk, hwin, hC, hk, ho, e1, e2, e3, e4]
  rw [e1, e2, e3, e4] at hwin
  simp only [Int.toNat_natCast]
  have hck : q.C * q.kh <= 262144 := Nat.le_trans (Nat.le_mul_of_pos_right _ hq.kw1) (by rw [hkk]; exact hbd.2.1)
  exact r14Conv (C := q.C) (ck := q.C * q.kh) (n := q.C * q.kh * q.kw) (T := q.all.length) c1 c2 cx cS nf cf h1 h2 hX hS (by rw [hs']; rfl) rfl rfl (by omega) (by rw [hkk]; exact hbd.2.2.2.2) (by rw [hkk]; omega)
   (by rw [hwin]) rfl (Nat.le_trans hbd.1 (by decide)) (by rw [hkk]; exact q.all_one_len') (by rw [hsz]; exact hq.all_lt) (Nat.le_of_eq hb'.symm) (Nat.le_of_eq hw'.symm) hc (by have := Nat.le_mul_of_pos_right O (Nat.lt_of_lt_of_le Nat.zero_lt_one hbd.2.2.2.1); rw [hal] at this; omega) (by rw [hal]; omega)
   hwR (fun q hq => (hxR q hq).mono (by omega)) hpR (fun o _ ix _ k hk => hsR o _ _ ix k (by omega))
 | pool q hk hq ht hs' e1 e2 e3 e4 hp hwin hz =>
  have hbd := Win.len_bd hq ht
  rw [q.one_len] at hbd
  have hal := q.all_len
  have hsz : x.length = q.C * q.H * q.W := by
   have h := hx
   have hv : validL s = true := by
    cases hvs : validL s with
    | true => rfl
    | false => rw [sizeL, hvs, if_neg (by decide)] at h; omega
   rw [sizeL, if_pos hv, hs'] at h
   simp only [prodFrom, Int.one_mul] at h
   exact Int.ofNat_inj.1 (by rw [h]; simp)
  have hC : s.getD 0 0 = (q.C : Int) := by rw [hs']; rfl
  have hix : ∀ ix ∈ q.all, ∀ i ∈ ix, 0 <= i /\ i < (x.length : Int) := fun ix hi i hj => ⟨hq.all_nn hp ix hi i hj, by rw [hsz]; exact hq.all_lt ix hi i hj⟩
  have hpos : 1 <= q.kh * q.kw := Nat.mul_pos hq.kh1 hq.kw1
  have hkl : q.kh * q.kw <= 262144 := Nat.le_trans (Nat.le_mul_of_pos_left _ hq.c1) hbd.2.1
  rw [if_neg (by omega), if_neg (by omega), hwin, hC, e1, e2, e3]
  rw [e1, e2, e3] at hwin
  simp only [Int.toNat_natCast]
  rcases hk with hk | hk
  ·rw [if_pos hk, hk]
   exact r14PoolLM (C := q.C) (n := q.kh * q.kw) (T := q.all.length) (ln := q.C * (q.kh * q.kw)) _ c1 _ c2 cx cS nf cf hX hS (by rw [hs']; rfl) rfl hpos (Nat.le_trans hkl (by decide)) rfl (Nat.le_trans hbd.2.1 (by decide))
    (by rw [hwin]) rfl (Nat.le_trans hbd.1 (by decide)) q.all_one_len' hix (by rw [hal]; exact Nat.le_trans hz (by decide)) hxR (fun ch _ ix _ k _ => (hR.bd (Bd.pmax (hxB.vals hD (partL ix (ch * (q.kh * q.kw)) (q.kh * q.kw))) hD k) pp hBB).mono (by decide))
  ·rw [if_neg (by omega), if_pos hk, hk]
   exact r14PoolLA (C := q.C) (n := q.kh * q.kw) (T := q.all.length) (ln := q.C * (q.kh * q.kw)) _ c1 _ c2 cx cS nf cf hX hS (by rw [hs']; rfl) rfl hpos (Nat.le_trans hkl (by decide)) rfl (Nat.le_trans hbd.2.1 (by decide))
    (by rw [hwin]) rfl (Nat.le_trans hbd.1 (by decide)) q.all_one_len' hix (by rw [hal]; exact Nat.le_trans hz (by decide)) hxR (fun ch _ ix _ k hk2 => (hR.bd (Bd.padd (hxB.vals hD (partL ix (ch * (q.kh * q.kw)) (q.kh * q.kw))) hD k) pp (Nat.mul_le_mul_right B (by omega))).mono (by decide))
 | keep hk =>
  rw [if_neg (by omega), if_neg (by omega), if_neg (by omega), if_neg (by omega)]
  rcases hk with hk | hk
  ·rw [if_pos hk, hk, reluQ_range]
   exact r14Relu (y := y) _ c1 _ c2 cx s.length cS nf cf hX (by omega) (fun q hq => (hxR q hq).mono (by omega))
  ·rw [if_neg (by omega), if_neg (by omega), hk]
   have h := r14Flat (w := w) (fr := l.frm) (ot := l.out) (kh := l.kh) (kw := l.kw) (st := l.stride) (pd := l.pad) (a1 := a1) (a2 := a2) (ax := ax) (aS := aS) (af := af) (x := x) (y := y) (wq l).length c1 (bq l).length c2 cx s.length cS nf cf hX (by omega)
   rw [<- same_range x] at h
   exact h
 | add hk =>
  rw [if_neg (by omega), if_neg (by omega), if_neg (by omega), if_neg (by omega), if_neg (by omega), if_pos hk, hk]
  obtain ⟨rfl, hY, hyl⟩ := hy hk
  unfold plusQ
  exact r14AddL _ c1 _ c2 cx s.length cS cf hX (by omega) hY hyl (fun q hq => (hxR q hq).mono (by omega)) (fun q hq => (hR.bd (hyB q hq) pp hBB).mono (by omega))
def smallR (x : RatL) : Bool := decide (x.num.length <= 2) && decide (x.den.length <= 1)
def littleL (L : List RatL) : Bool := L.all smallR && L.all validR
theorem allR_take {L : List RatL} {j : Nat} {x : RatL} (hx : L[j]? = some x) : (L.take (j + 1)).all smallR = ((L.take j).all smallR && smallR x) := by
 rw [take_succ_at hx, List.all_append]; simp
theorem kLittle {w : World} {a : Option Addr} {L : List RatL} (c : Nat) (h : RatsAt w a L) (hL : ∀ x ∈ L, RatLe x 1048576) :
  Calls Tryz.prog 16 #[.slice a L.length c] w fun e w' => e = .returned (.bool (littleL L)) /\ Below w.heap.size w w' := by
 have q1 := h.len
 have H := hid h
 have HV := hid (r3ValidAll c h hL)
 generalize hR : littleL L = R
 unfold littleL at hR
 have HR := hid hR
 clear h hL hR
 go_enter Tryz.func16, Tryz.ntmps16
 go_wp2
 go_loopw [3] (fun i wr => ∃ j : Nat, j <= L.length /\ i = .int .i64 (j : Int) /\ Hid ((L.take j).all smallR = true) /\ Hid (w = wr)) (fun i _ => L.length - (intOf i).toNat)
 case atStart => exact ⟨0, Nat.zero_le _, rfl, rfl, rfl⟩
 case round =>
  obtain ⟨j, hj, rfl, HA, HW⟩ := hrel
  have ew := HW.out
  clear HW
  subst ew
  by_cases hlt : j < L.length
  ·obtain ⟨b, off, x, an, ad, cn, cd, rfl, hb, hx, x0, x1, x2, hv⟩ := H.out.pick hlt
   have HT := hid (allR_take hx)
   have HM := hid (List.mem_of_getElem? hx)
   clear hx hv
   by_cases g1 : x.num.length <= 2
   ·by_cases g2 : x.den.length <= 1
    ·have HA2 : Hid ((L.take (j + 1)).all smallR = true) := by unfold Hid; rw [HT.out, HA.out]; unfold smallR; rw [decide_eq_true g1, decide_eq_true g2]; rfl
     go_wp2
     go_roundw
     case rel => exact ⟨j + 1, hlt, by go_num, HA2.out, by first | rfl | exact True.intro⟩
     case measure => simp [intOf]; omega
    ·have HF : Hid (R = false) := by
      unfold Hid
      have : L.all smallR = false := by rw [List.all_eq_false]; exact ⟨x, HM.out, by simp [smallR, g2]⟩
      rw [<- HR.out, this]; rfl
     go_wp2
     go_ret
     exact ⟨ret_bool HF.out.symm, Below.refl _ _⟩
   ·have HF : Hid (R = false) := by
     unfold Hid
     have : L.all smallR = false := by rw [List.all_eq_false]; exact ⟨x, HM.out, by simp [smallR, g1]⟩
     rw [<- HR.out, this]; rfl
    go_wp2
    go_ret
    exact ⟨ret_bool HF.out.symm, Below.refl _ _⟩
  ·obtain rfl : j = L.length := by omega
   have HE : Hid (L.all validR = R) := by
    have := HA.out
    rw [List.take_length] at this
    unfold Hid
    rw [<- HR.out, this]; rfl
   go_wp2_with fail
   refine HV.out.mono ?_
   rintro e w' ⟨rfl, hb⟩
   have HB := hid hb
   clear hb
   rw [HE.out]
   go_wp2
   go_ret
   exact ⟨rfl, HB.out⟩
def okLay (l : LayL) : Bool := decide (l.weights.length <= 60) && (decide (l.bias.length <= 60) && (littleL l.weights && littleL l.bias))
def fairE (m : ModL) (L : List RatL) : Bool := decide (m.layers.length <= 8) && (decide (sizeL m.input <= 30) && (decide (L.length <= 30) && (decide (m.input.length <= 8) && (m.layers.all okLay && littleL L))))
theorem allO_take {L : List LayL} {j : Nat} {x : LayL} (hx : L[j]? = some x) : (L.take (j + 1)).all okLay = ((L.take j).all okLay && okLay x) := by
 rw [take_succ_at hx, List.all_append]; simp
structure StepV where
 kd : Int
 fr : Int
 ot : Int
 kh : Int
 kw : Int
 st : Int
 pd : Int
 a1 : Option Addr
 n1 : Nat
 c1 : Nat
 a2 : Option Addr
 n2 : Nat
 c2 : Nat
 aS : Option Addr
 nS : Nat
 cS : Nat
 ax : Option Addr
 nx : Nat
 cx : Nat
 ai : Option Addr
 ni : Nat
 ci : Nat
 aT : Option Addr
 nT : Nat
 cT : Nat
abbrev stC (S : StepV) : Array Value := #[.int .i64 S.kd, .int .i64 S.fr, .int .i64 S.ot, .int .i64 S.kh, .int .i64 S.kw, .int .i64 S.st, .int .i64 S.pd, .slice S.a1 S.n1 S.c1, .slice S.a2 S.n2 S.c2, .slice S.aS S.nS S.cS, .slice S.ax S.nx S.cx, .slice S.ai S.ni S.ci, .slice S.aT S.nT S.cT]
def StepV.val (s : StepV) : Value :=
 .agg #[.int .i64 s.kd, .int .i64 s.fr, .int .i64 s.ot, .int .i64 s.kh, .int .i64 s.kw, .int .i64 s.st, .int .i64 s.pd, .slice s.a1 s.n1 s.c1, .slice s.a2 s.n2 s.c2,
  .slice s.aS s.nS s.cS, .slice s.ax s.nx s.cx, .slice s.ai s.ni s.ci, .slice s.aT s.nT s.cT]
def StepV.cells (s : StepV) : Array Value :=
 #[.int .i64 s.kd, .int .i64 s.fr, .int .i64 s.ot, .int .i64 s.kh, .int .i64 s.kw, .int .i64 s.st, .int .i64 s.pd, .slice s.a1 s.n1 s.c1, .slice s.a2 s.n2 s.c2,
  .slice s.aS s.nS s.cS, .slice s.ax s.nx s.cx, .slice s.ai s.ni s.ci, .slice s.aT s.nT s.cT]
structure SBox (W : World) (g : Nat) (s : StepV) : Prop where
 f0 : W.cell? ⟨g, 0, none⟩ = some (.int .i64 s.kd)
 f1 : W.cell? ⟨g, 1, none⟩ = some (.int .i64 s.fr)
 f2 : W.cell? ⟨g, 2, none⟩ = some (.int .i64 s.ot)
 f3 : W.cell? ⟨g, 3, none⟩ = some (.int .i64 s.kh)
 f4 : W.cell? ⟨g, 4, none⟩ = some (.int .i64 s.kw)
 f5 : W.cell? ⟨g, 5, none⟩ = some (.int .i64 s.st)
 f6 : W.cell? ⟨g, 6, none⟩ = some (.int .i64 s.pd)
 f7 : W.cell? ⟨g, 7, none⟩ = some (.slice s.a1 s.n1 s.c1)
 f8 : W.cell? ⟨g, 8, none⟩ = some (.slice s.a2 s.n2 s.c2)
 f9 : W.cell? ⟨g, 9, none⟩ = some (.slice s.aS s.nS s.cS)
 f10 : W.cell? ⟨g, 10, none⟩ = some (.slice s.ax s.nx s.cx)
 f11 : W.cell? ⟨g, 11, none⟩ = some (.slice s.ai s.ni s.ci)
 f12 : W.cell? ⟨g, 12, none⟩ = some (.slice s.aT s.nT s.cT)
 free : ∀ i, W.frozen? ⟨g, i, none⟩ = false
 lt : g < W.heap.size
theorem SBox.below {W W' : World} {g : Nat} {s : StepV} (h : SBox W g s) (hb : Below W.heap.size W W') : SBox W' g s := by
 obtain ⟨f0, f1, f2, f3, f4, f5, f6, f7, f8, f9, f10, f11, f12, ff, lt⟩ := h
 have k := fun o => hb.cell (p := ⟨g, o, none⟩) lt
 exact ⟨(k 0).trans f0, (k 1).trans f1, (k 2).trans f2, (k 3).trans f3, (k 4).trans f4, (k 5).trans f5, (k 6).trans f6, (k 7).trans f7, (k 8).trans f8, (k 9).trans f9, (k 10).trans f10, (k 11).trans f11, (k 12).trans f12,
  fun i => (hb.frozen lt).trans (ff i), Nat.lt_of_lt_of_le lt hb.size⟩
theorem SBox.alloc (W : World) (s : StepV) (T : Nat) : SBox (W.alloc (.cells s.cells T)) W.heap.size s := by
 refine ⟨?_, ?_, ?_, ?_, ?_, ?_, ?_, ?_, ?_, ?_, ?_, ?_, ?_, ?_, ?_⟩
 all_goals first | (rw [World.cell?_alloc_at _ _ _ _ rfl]; rfl) | exact fun o => World.frozen?_alloc_new _ _ _ _ | simp
theorem RatV.parts {w : World} {an ad : Option Addr} {cn cd : Nat} {x : RatL} (h : RatV w (.agg #[.bool x.neg, .slice an x.num.length cn, .slice ad x.den.length cd]) x) : x.num.length <= cn /\ x.den.length <= cd /\ U32s w an x.num /\ U32s w ad x.den := by
 obtain ⟨an', ad', cn', cd', e, h2, h3, h4, h5⟩ := h.ex
 cases e
 exact ⟨h2, h3, h4, h5⟩
structure AcI (w wr : World) (g : Nat) (q : RatL) : Prop where
 box : RBox wr g q
 bl : Below w.heap.size w wr
 ge : w.heap.size <= g
theorem AcI.below {w wr W : World} {g : Nat} {q : RatL} (h : AcI w wr g q) (hb : Below wr.heap.size wr W) : AcI w W g q := ⟨h.box.below hb, h.bl.trans (hb.mono h.bl.size), h.ge⟩
theorem AcI.step {w wr W : World} {g : Nat} {q y : RatL} {bn bd : Option Addr} {dn dd : Nat} (h : AcI w wr g q) (hb : Below wr.heap.size wr W)
  (g2 : y.num.length <= dn) (g3 : y.den.length <= dd) (g4 : U32s W bn y.num) (g5 : U32s W bd y.den) :
  AcI w (((W.setCell ⟨g, 0, none⟩ (.bool y.neg)).setCell ⟨g, 1, none⟩ (.slice bn y.num.length dn)).setCell ⟨g, 2, none⟩ (.slice bd y.den.length dd)) g y :=
 ⟨(h.box.below hb).store g2 g3 g4 g5, below_store3 (h.bl.trans (hb.mono h.bl.size)) h.ge _ _ _, h.ge⟩
def WinsPost (w : World) (L : List (List Int)) (e : Ending) (w' : World) : Prop := ∃ a c, e = .returned (.slice a L.length c) /\ Intss w' Any a L /\ Below w.heap.size w w'
theorem evWindows {w : World} {S : StepV} {sh : List Int} {F : Nat -> Prop} (h1 : sh.length = S.nS) (hS : Ints w F S.aS sh) :
  Calls Tryz.prog 102 #[S.val] w (WinsPost w (windowsL sh S.kh S.kw S.st S.pd).1) := by
 have HSB := hid (SBox.alloc w S 70)
 have hB1 := ((Below.refl w.heap.size w).alloc (Nat.le_refl _) (.cells S.cells 70))
 have HWn := hid (tWin S.cS S.kh S.kw S.st S.pd (hS.below hB1))
 rw [h1] at HWn
 have HB1 := hid hB1
 clear hS h1 hB1
 generalize hwl : (windowsL sh S.kh S.kw S.st S.pd) = WL
 have HWl := hid hwl
 clear hwl
 unfold StepV.val
 unfold StepV.cells at HSB HB1 HWn
 go_enter Tryz.func102, Tryz.ntmps102
 go_upto_region 1 with fail
 generalize w.alloc (.cells (stC S) 70) = W1 at *
 obtain ⟨f0, f1, f2, f3, f4, f5, f6, f7, f8, f9, f10, f11, f12, ff, lt⟩ := HSB.out
 go_wp2_with fail
 refine HWn.out.mono ?_
 rintro e Wx ⟨aw, cw, rfl, hI, hb⟩
 rw [HWl.out] at hI ⊢
 have hNP : WinsPost w WL.1 (.returned (.slice aw WL.1.length cw)) Wx := ⟨aw, cw, rfl, hI.mono (fun _ _ _ => trivial), HB1.out.trans (hb.mono HB1.out.size)⟩
 have HNP := hid hNP
 clear hI hb hNP
 generalize WL.1 = LL at *
 generalize WL.2.1 = e1 at *
 generalize WL.2.2.1 = e2 at *
 generalize WL.2.2.2 = e3 at *
 go_wp2
 exact bodyPost_ret (v := .slice aw LL.length cw) (by simp [results, Tryz.results102, go_sem]) rfl HNP.out
def denseO (bs ws x : List Rat) (r : Nat) : Rat := sumQ (bs.getD r 0) ws (r * x.length) (iotaZ x.length) x
def denseK (k : Nat) (bs ws x : List Rat) : List Rat := (List.range k).map (denseO bs ws x)
theorem denseK_succ (k : Nat) (bs ws x : List Rat) : (denseK (k + 1) bs ws x).map ratL = (denseK k bs ws x).map ratL ++ [ratL (denseO bs ws x k)] := by simp [denseK, List.range_succ]
theorem denseK_len (k : Nat) (bs ws x : List Rat) : ((denseK k bs ws x).map ratL).length = k := by simp [denseK]
theorem evDense {w : World} {S : StepV} {bs ws x : List Rat} (h1 : ws.length = S.n1) (h2 : bs.length = S.n2) (h3 : x.length = S.nx)
  (hW : RatsAt w S.a1 (ws.map ratL)) (hB : RatsAt w S.a2 (bs.map ratL)) (hX : RatsAt w S.ax (x.map ratL)) (hwl : S.n2 * S.nx <= S.n1) (hN1 : S.n1 <= 1000000) (hN2 : S.n2 <= 1000000) (hNx : S.nx <= 1000000)
  (hw1 : ∀ q ∈ ws, RatLe (ratL q) 1048575) (hx1 : ∀ q ∈ x, RatLe (ratL q) 1048575) (hp : ∀ p ∈ ws, ∀ q ∈ x, RatLe (ratL (p * q)) 524286)
  (hs : ∀ r, r < S.n2 -> ∀ k, k <= S.nx -> RatLe (ratL (psum (bs.getD r 0) ws (r * S.nx) (iotaZ S.nx) x k)) 524286) :
  Calls Tryz.prog 63 #[S.val] w (RowRet w ((denseK S.n2 bs ws x).map ratL)) := by
 have HW := hid hW
 have HBi := hid hB
 have HX := hid hX
 have H1 := hid h1
 have H2 := hid h2
 have H3 := hid h3
 have Hw1 := hid hw1
 have Hx1 := hid hx1
 have Hp := hid hp
 have Hs := hid hs
 have Hwl := hid hwl
 have HSB := hid (SBox.alloc w S 70)
 have HB1 := hid ((Below.refl w.heap.size w).alloc (Nat.le_refl _) (.cells S.cells 70))
 clear hW hB hX hw1 hx1 hp hs hwl h1 h2 h3
 unfold StepV.val
 unfold StepV.cells at HSB HB1
 go_enter Tryz.func63, Tryz.ntmps63
 go_upto_region 1 with fail
 generalize w.alloc (.cells (stC S) 70) = W1 at *
 have f10 := HSB.out.f10
 have f8 := HSB.out.f8
 go_wp2
 clear f10 f8
 go_loopw [3, 16] (fun v i wr => ∃ (r : Nat) (a : Option Addr) (c : Nat), r <= S.n2 /\ v = .slice a r c /\ i = .int .i64 (r : Int) /\ Hid (OutI W1 wr (.slice a r c) ((denseK r bs ws x).map ratL))) (fun _ i _ => S.n2 - (intOf i).toNat)
 case atStart => exact ⟨0, none, 0, Nat.zero_le _, rfl, rfl, OutI.start W1⟩
 case round =>
  obtain ⟨r, b0, k0, hr, rfl, rfl, HOut⟩ := hrel
  obtain ⟨wq, hwq⟩ : ∃ wq : World, wq = wr := ⟨_, rfl⟩
  subst hwq
  by_cases hlt : r < S.n2
  ·have HSr := hid (HSB.out.below HOut.out.bl)
   have hbr : Below w.heap.size w wq := HB1.out.trans (HOut.out.bl.mono HB1.out.size)
   obtain ⟨bb, ob, u, un, ud, ucn, ucd, hab, hbb, hu, uc0, uc1, uc2, huv⟩ := HBi.out.pick (k := r) (by rw [List.length_map, H2.out]; exact hlt)
   obtain ⟨hu1, hu2⟩ := map_get hu
   have uc0 := (hbr.cell (p := ⟨bb, ob + r * 3, none⟩) hbb).trans uc0
   have uc1 := (hbr.cell (p := ⟨bb, ob + r * 3 + 1, none⟩) hbb).trans uc1
   have uc2 := (hbr.cell (p := ⟨bb, ob + r * 3 + 2, none⟩) hbb).trans uc2
   obtain ⟨q2, q3, q4, q5⟩ := huv.parts
   have f10 := HSr.out.f10
   have Hu2 := hid hu2
   have HAc : Hid (AcI wq (wq.alloc (ratO u un ucn ud ucd 37)) wq.heap.size u) := ⟨RBox.alloc q2 q3 (q4.below hbr) (q5.below hbr) _, (Below.refl _ _).alloc (Nat.le_refl _) _, Nat.le_refl _⟩
   have HBr := hid hbr
   have HSn := hid (HSr.out.below HAc.out.bl)
   rw [hab]
   clear hu hu1 hu2 huv q4 q5 hbr hab
   go_upto_region 6 with fail
   generalize wq.alloc (ratO u un ucn ud ucd 37) = Wg at *
   clear uc0 uc1 uc2 f10
   have f10 := HSn.out.f10
   go_wp2
   clear f10
   go_loopw [24] (fun i wi => ∃ k : Nat, k <= S.nx /\ i = .int .i64 (k : Int) /\ Hid (AcI wq wi wq.heap.size (ratL (psum (bs.getD r 0) ws (r * S.nx) (iotaZ S.nx) x k)))) (fun i _ => S.nx - (intOf i).toNat)
   case atStart => exact ⟨0, Nat.zero_le _, rfl, by have h := HAc.out; rw [Hu2.out] at h; exact h⟩
   case round =>
    obtain ⟨k, hk, rfl, HI⟩ := hrel
    by_cases hlk : k < S.nx
    ·obtain ⟨p0, hp0⟩ : ∃ p0, p0 = r * S.nx := ⟨_, rfl⟩
     have hmul : p0 + k < S.n1 := by
      have e1 : (r + 1) * S.nx <= S.n2 * S.nx := Nat.mul_le_mul_right _ hlt
      have e2 := Hwl.out
      rw [Nat.succ_mul, <- hp0] at e1
      omega
     have hbi : Below w.heap.size w wr := HBr.out.trans (HI.out.bl.mono HBr.out.size)
     obtain ⟨bw, ow, v, vn, vd, vcn, vcd, haw, hbw, hv, wc0, wc1, wc2, hwv⟩ := HW.out.pick (k := p0 + k) (by rw [List.length_map, H1.out]; exact hmul)
     obtain ⟨bx, ox, y, yn, yd, ycn, ycd, hax, hbx, hyy, yc0, yc1, yc2, hyv⟩ := HX.out.pick (k := k) (by rw [List.length_map, H3.out]; exact hlk)
     obtain ⟨hv1, hv2⟩ := map_get hv
     obtain ⟨hy1, hy2⟩ := map_get hyy
     obtain ⟨s, hs⟩ : ∃ s, s = ratL (psum (bs.getD r 0) ws (r * S.nx) (iotaZ S.nx) x k) := ⟨_, rfl⟩
     obtain ⟨s1, hs1⟩ : ∃ s1, s1 = ratL (psum (bs.getD r 0) ws (r * S.nx) (iotaZ S.nx) x (k + 1)) := ⟨_, rfl⟩
     obtain ⟨pr, hpr⟩ : ∃ pr, pr = ratL (ratOf v * ratOf y) := ⟨_, rfl⟩
     have hq : ratL (ratOf s + ratOf pr) = s1 := by
      rw [hs, hpr, hs1, ratOf_ratL, ratOf_ratL, psum_step (iotaZ_at hlk), hv1, hy1, <- hp0]
     have hmem : ws.getD (p0 + k) 0 ∈ ws := by
      rw [List.getD_eq_getElem?_getD, List.getElem?_eq_getElem (by rw [H1.out]; exact hmul)]; exact List.getElem_mem _
     have hmex : x.getD k 0 ∈ x := by
      rw [List.getD_eq_getElem?_getD, List.getElem?_eq_getElem (by rw [H3.out]; exact hlk)]; exact List.getElem_mem _
     have HI1 := HI.out
     rw [<- hs] at HI1
     obtain ⟨yq2, yq3, yq4, yq5⟩ := hyv.parts
     have hal : Below wr.heap.size wr (wr.alloc (ratO y yn ycn yd ycd 37)) := (Below.refl _ _).alloc (Nat.le_refl _) _
     have HI2 := hid (HI1.below hal)
     have HYb := hid (Box3.alloc wr (.bool y.neg) (.slice yn y.num.length ycn) (.slice yd y.den.length ycd) 37)
     have HBj := hid (hbi.trans (hal.mono hbi.size))
     have HSj := hid ((HSr.out.below HI.out.bl).below hal)
     have hgl : wq.heap.size < wr.heap.size := HI1.box.lt
     have HS1 := hid hs1
     have HI1 := hid HI1
     have HHs := hid hs
     have HHpr := hid hpr
     have HHv := hid (And.intro hv1 hv2)
     have HHy := hid (And.intro hy1 hy2)
     have HHq := hid hq
     have m0 : IntKind.i64.wrap ((r : Int) * (S.nx : Int)) = (p0 : Int) := by
      rw [<- Int.natCast_mul, <- hp0]; exact IntWalk.i64_in _ (by omega)
     have hyv' := hid hyv
     have hwv' := hid hwv
     have uy0 := (hbi.cell (p := ⟨bx, ox + k * 3, none⟩) hbx).trans yc0
     have uy1 := (hbi.cell (p := ⟨bx, ox + k * 3 + 1, none⟩) hbx).trans yc1
     have uy2 := (hbi.cell (p := ⟨bx, ox + k * 3 + 2, none⟩) hbx).trans yc2
     have hbx2 := Nat.lt_of_lt_of_le hbx hbi.size
     rw [hax, haw]
     clear hv1 hv2 hy1 hy2 hs hs1 hpr hq hal yq4 yq5 hv hyy hyv hwv hp0
     go_upto_region 9 with fail
     generalize wr.alloc (ratO y yn ycn yd ycd 37) = wj at *
     obtain ⟨sn, sd, scn, scd, hbxs, s2, s3, s4, s5⟩ := HI2.out.box.ex
     have HMul : Hid (∀ W, Below wj.heap.size wj W -> Calls Tryz.prog 101 #[.agg #[.bool v.neg, .slice vn v.num.length vcn, .slice vd v.den.length vcd], .agg #[.bool y.neg, .slice yn y.num.length ycn, .slice yd y.den.length ycd]] W (RetR W pr)) := fun W hb => by
      have hbw2 := HBj.out.trans (hb.mono HBj.out.size)
      rw [HHpr.out]
      exact rMul (hwv'.out.below hbw2) (hyv'.out.below hbw2) (by rw [HHv.out.2]; exact Hw1.out _ hmem) (by rw [HHy.out.2]; exact Hx1.out _ hmex)
     have HAdd : Hid (∀ W, Below wj.heap.size wj W -> ∀ z, RatV W z pr -> Calls Tryz.prog 100 #[.agg #[.bool s.neg, .slice sn s.num.length scn, .slice sd s.den.length scd], z] W (RetR W s1)) := fun W hb z hz => by
      have e1 : RatLe s 1048575 := (show RatLe s 524286 by rw [HHs.out]; exact Hs.out r hlt k (Nat.le_of_lt hlk)).mono (by omega)
      have e2 : RatLe pr 1048575 := (show RatLe pr 524286 by rw [HHpr.out, HHv.out.1, HHy.out.1]; exact Hp.out _ hmem _ hmex).mono (by omega)
      have h := rAdd (x := s) ⟨sn, sd, scn, scd, rfl, s2, s3, s4.below hb, s5.below hb⟩ hz e1 e2
      rw [HHq.out] at h
      exact h
     have HCe : Hid (∀ W, Below wj.heap.size wj W -> W.cell? ⟨wq.heap.size, 0, none⟩ = some (.bool s.neg) /\ W.cell? ⟨wq.heap.size, 1, none⟩ = some (.slice sn s.num.length scn) /\ W.cell? ⟨wq.heap.size, 2, none⟩ = some (.slice sd s.den.length scd) /\
       W.cell? ⟨w.heap.size, 7, none⟩ = some (.slice (some ⟨bw, ow, none⟩) S.n1 S.c1) /\
       W.cell? ⟨bw, ow + (p0 + k) * 3, none⟩ = some (.bool v.neg) /\ W.cell? ⟨bw, ow + (p0 + k) * 3 + 1, none⟩ = some (.slice vn v.num.length vcn) /\ W.cell? ⟨bw, ow + (p0 + k) * 3 + 2, none⟩ = some (.slice vd v.den.length vcd) /\
       W.cell? ⟨wr.heap.size, 0, none⟩ = some (.bool y.neg) /\ W.cell? ⟨wr.heap.size, 1, none⟩ = some (.slice yn y.num.length ycn) /\ W.cell? ⟨wr.heap.size, 2, none⟩ = some (.slice yd y.den.length ycd)) := fun W hb => by
      have hbw2 := HBj.out.trans (hb.mono HBj.out.size)
      have g7 := (HSj.out.below hb).f7
      rw [haw] at g7
      exact ⟨(hb.cell hbxs.lt).trans hbxs.c0, (hb.cell hbxs.lt).trans hbxs.c1, (hb.cell hbxs.lt).trans hbxs.c2, g7, (hbw2.cell hbw).trans wc0, (hbw2.cell hbw).trans wc1, (hbw2.cell hbw).trans wc2,
       (hb.cell HYb.out.lt).trans HYb.out.c0, (hb.cell HYb.out.lt).trans HYb.out.c1, (hb.cell HYb.out.lt).trans HYb.out.c2⟩
     have hs0 := hbxs.lt
     have hs9 := HYb.out.lt
     clear wc0 wc1 wc2 yc0 yc1 yc2 uy0 uy1 uy2 s4 s5 hbxs hmem hmex
     refine wp_region_slots_tail 14 (by kernel_rfl) (by kernel_rfl) (by kernel_rfl) (by kernel_rfl) (by decide) (From wj.heap.size wj) (fun w w' => Below w.heap.size w w') (GR [.val (.agg #[.bool s.neg, .slice sn s.num.length scn, .slice sd s.den.length scd]), .val (.pointer (some ⟨w.heap.size, 0, none⟩)), .val (.pointer (some ⟨w.heap.size, 7, none⟩)), .val (.slice (some ⟨bw, ow, none⟩) S.n1 S.c1), .val (.int .i64 (r : Int)), .val (.int .i64 (S.nx : Int)), .val (.int .i64 (p0 : Int)), .val (.int .i64 (k : Int)), .val (.int .i64 ((p0 : Int) + (k : Int))), .val (.pointer (some ⟨bw, ow + (p0 + k) * 3, none⟩)), .val (.agg #[.bool v.neg, .slice vn v.num.length vcn, .slice vd v.den.length vcd]), .val (.agg #[.bool y.neg, .slice yn y.num.length ycn, .slice yd y.den.length ycd]), .rat pr, .rat s1]) (fun i v w w' h hb => GR_below h hb) (From.start (Nat.le_refl _)) ?_ ?_
     ·intro ops
      simp only [List.take_succ_cons, List.take_zero, Shows]
      refine ⟨?_, ?_, ?_, ?_, ?_, ?_, ?_, ?_, ?_, ?_, ?_, ?_, ?_, ?_, trivial⟩
      all_goals (intro g W hR hL; have hB := hR.base; obtain ⟨x0, x1, x2, f7, wc0, wc1, wc2, yc0, yc1, yc2⟩ := HCe.out W hR.be; simp only [Laid, Region.binds, forall_const, Bool.false_eq_true, false_implies, GR, List.getElem?_cons_zero, List.getElem?_cons_succ] at hL; simp [fillFrom, Act.put])
      ·clear hL
       have HR := hid hR
       clear hR
       go_wp2
       exact ⟨_, rfl, HR.out, Below.refl _ _, rfl⟩
      ·clear hL
       have HR := hid hR
       clear hR
       go_wp2
       exact ⟨_, rfl, HR.out, Below.refl _ _, rfl⟩
      ·generalize g 1 = y1 at hL ⊢
       obtain ⟨rfl, _⟩ := hL
       have HR := hid hR
       clear hR
       go_wp2
       exact ⟨_, rfl, HR.out, Below.refl _ _, rfl⟩
      ·generalize g 2 = y2 at hL ⊢
       obtain ⟨rfl, _⟩ := hL
       have HR := hid hR
       clear hR
       go_wp2
       exact ⟨_, rfl, HR.out, Below.refl _ _, rfl⟩
      ·clear hL
       have HR := hid hR
       clear hR
       go_wp2
       exact ⟨_, rfl, HR.out, Below.refl _ _, rfl⟩
      ·clear hL
       have HR := hid hR
       clear hR
       go_wp2
       exact ⟨_, rfl, HR.out, Below.refl _ _, rfl⟩
      ·generalize g 4 = y4 at hL ⊢
       generalize g 5 = y5 at hL ⊢
       obtain ⟨rfl, rfl, _⟩ := hL
       have HR := hid hR
       clear hR
       go_wp2
       exact ⟨_, rfl, HR.out, Below.refl _ _, rfl⟩
      ·clear hL
       have HR := hid hR
       clear hR
       go_wp2
       exact ⟨_, rfl, HR.out, Below.refl _ _, rfl⟩
      ·generalize g 6 = y6 at hL ⊢
       generalize g 7 = y7 at hL ⊢
       obtain ⟨rfl, rfl, _⟩ := hL
       have HR := hid hR
       clear hR
       go_wp2
       exact ⟨_, rfl, HR.out, Below.refl _ _, rfl⟩
      ·generalize g 3 = y3 at hL ⊢
       generalize g 8 = y8 at hL ⊢
       obtain ⟨rfl, rfl, _⟩ := hL
       have HR := hid hR
       clear hR
       go_wp2
       exact ⟨_, rfl, HR.out, Below.refl _ _, rfl⟩
      ·generalize g 9 = y9 at hL ⊢
       obtain ⟨rfl, _⟩ := hL
       have HR := hid hR
       clear hR
       go_wp2
       exact ⟨_, rfl, HR.out, Below.refl _ _, rfl⟩
      ·clear hL
       have HR := hid hR
       clear hR
       go_wp2
       exact ⟨_, rfl, HR.out, Below.refl _ _, rfl⟩
      ·generalize g 10 = y10 at hL ⊢
       generalize g 11 = y11 at hL ⊢
       obtain ⟨rfl, rfl, _⟩ := hL
       have HR := hid hR
       clear hR
       have HCt := hid (HMul.out W HR.out.be)
       go_wp2_with fail
       refine HCt.out.mono ?_
       rintro e w1 ⟨v1, rfl, kv, kb⟩
       have KV := hid kv
       have KB := hid kb
       clear kv kb HCt
       go_wp2
       exact ⟨_, rfl, ⟨Nat.le_trans HR.out.base KB.out.size, HR.out.be.trans (KB.out.mono HR.out.base)⟩, KB.out, KV.out⟩
      ·generalize g 0 = y0 at hL ⊢
       generalize g 12 = y12 at hL ⊢
       obtain ⟨rfl, H12, _, _⟩ := hL
       have K12 := hid H12
       have HR := hid hR
       clear hR H12
       have HCt := hid (HAdd.out W HR.out.be _ K12.out)
       go_wp2_with fail
       refine HCt.out.mono ?_
       rintro e w1 ⟨v1, rfl, kv, kb⟩
       have KV := hid kv
       have KB := hid kb
       clear kv kb HCt
       go_wp2
       exact ⟨_, rfl, ⟨Nat.le_trans HR.out.base KB.out.size, HR.out.be.trans (KB.out.mono HR.out.base)⟩, KB.out, KV.out⟩
     ·intro ops g W hR hL
      have hB := hR.base
      have J13 := hL.2
      simp only [GR, List.getElem?_cons_zero, List.getElem?_cons_succ] at J13
      obtain ⟨x0, x1, x2, f7, wc0, wc1, wc2, yc0, yc1, yc2⟩ := HCe.out W hR.be
      clear hL
      simp only [List.take_succ_cons, List.take_zero, List.drop_succ_cons, List.drop_zero]
      simp [fillFrom, Act.put]
      generalize g 13 = y13 at J13 ⊢
      have HR := hid hR
      clear hR
      obtain ⟨bn', bd', dn', dd', rfl, g2, g3, g4, g5⟩ := J13.ex
      have HBe := hid (show Below wj.heap.size wj W from HR.out.be)
      have HBx := hid (HI2.out.box.below HBe.out)
      obtain ⟨_, _, _, _, ⟨_, _, _, zf, zlt⟩, _⟩ := HBx.out.ex
      have HStep := hid (HI2.out.step HBe.out g2 g3 g4 g5)
      clear g4 g5 J13
      go_wp2
      go_roundw
      case rel => exact ⟨k + 1, hlk, by go_num, by rw [<- HS1.out]; exact HStep.out⟩
      case measure => simp [intOf]; omega
    ·obtain rfl : k = S.nx := by omega
     obtain ⟨s, hs⟩ : ∃ s, s = ratL (denseO bs ws x r) := ⟨_, rfl⟩
     have hbx : AcI wq wr wq.heap.size s := by
      have h := HI.out
      rw [hs, show denseO bs ws x r = psum (bs.getD r 0) ws (r * S.nx) (iotaZ S.nx) x S.nx by unfold denseO sumQ; rw [H3.out, iotaZ_len]]
      exact h
     have HStep : Hid _ := denseK_succ r bs ws x
     rw [<- hs] at HStep
     obtain ⟨sn, sd, scn, scd, ⟨x0, x1, x2, _, xlt⟩, s2, s3, s4, s5⟩ := hbx.box.ex
     have HRow := hid (Row1.alloc s2 s3 s4 s5 37)
     have HOw := hid ((HOut.out.below hbx.bl).below ((Below.refl wr.heap.size wr).alloc (Nat.le_refl _) (ratO s sn scn sd scd 37)))
     have HLn := hid (denseK_len r bs ws x)
     clear hbx s4 s5 hs
     go_wp2_with (at_builtin; refine wpList_appR rfl (.tmp 44) (.tmp 46) 26 rfl W1.heap.size Tryz.underlying26 Tryz.infoRat (.slice b0 r k0) r _ HLn.out rfl HOw.out.own _ s HRow.out rfl (by omega) HOw.out.bl.size ?_; intro b3 k3 w3 hown hk3 hg hbe; have HOut3 := hid (show OutI W1 w3 (.slice b3 (r + 1) k3) ((denseK (r + 1) bs ws x).map ratL) from ⟨by rw [HStep.out]; exact hown, HOw.out.bl.trans hbe⟩); clear hown hg hbe)
     go_roundw
     case rel => exact ⟨r + 1, b3, k3, hlt, rfl, by go_num, HOut3.out⟩
     case measure => simp [intOf]; omega
  ·obtain rfl : r = S.n2 := by omega
   go_wp2
   have hNP : RowRet w ((denseK S.n2 bs ws x).map ratL) (.returned (.slice b0 S.n2 k0)) wq := HOut.out.ret (denseK_len S.n2 bs ws x) (by omega) HB1.out
   exact bodyPost_ret (v := .slice b0 S.n2 k0) (by simp [results, Tryz.results63, go_sem]) rfl hNP
end Go.Proofs.YtoppijdedkdjeaaGreat
