/-
  Contracts of the functions that the statement reaches: PvA.
-/
import Derived.Test.YtoppijdedkdjeaaGreatF31
set_option linter.unusedVariables false
set_option linter.unusedSimpArgs false
set_option linter.constructorNameAsVariable false
set_option linter.deprecated false
set_option maxRecDepth 100000
set_option maxHeartbeats 3200000
namespace Go.Proofs.YtoppijdedkdjeaaGreat
open Go.RowKit
open Go.Lib (hid)
def AddCut (W1 : World) (y : List RatL) (s3 : Value) (wx : World) : Prop := W1 = wx /\ ∃ a c n, s3 = .slice a n c /\ n = y.length /\ RatsAt W1 a y
theorem evAddL {w : World} {S : StepV} {x y inp : List Rat} {Y : List (List Rat)} (h3 : x.length = S.nx) (hX : RatsAt w S.ax (x.map ratL)) (hNx : S.nx <= 1000000)
  (hI : RatsAt w S.ai (inp.map ratL)) (hIn : inp.length = S.ni) (hT : RowsR w S.aT (Y.map (fun z => z.map ratL))) (hTn : Y.length = S.nT) (hF : 0 <= S.fr -> S.fr.toNat < Y.length) (hy : fromQ inp Y S.fr = y) (hyl : x.length <= y.length)
  (hx1 : ∀ q ∈ x, RatLe (ratL q) 1048575) (hy1 : ∀ q ∈ y, RatLe (ratL q) 1048575) :
  Calls Tryz.prog 76 #[S.val] w (RowRet w ((plusQ x y).map ratL)) := by
 have HX := hid hX
 have HIn := hid hI
 have HT := hid hT
 have H3 := hid h3
 have HN := hid hIn
 have HTn := hid hTn
 have Hx1 := hid hx1
 have Hy1 := hid hy1
 have HF := hid hF
 have HY := hid hy
 have HYl := hid hyl
 have hyl2 := hT.len
 have hxl2 := hI.len
 obtain ⟨FF, hFF⟩ : ∃ FF : Nat -> Rat, FF = (fun k => x.getD k 0 + y.getD k 0) := ⟨_, rfl⟩
 rw [show plusQ x y = (List.range S.nx).map FF by rw [hFF, <- h3]; rfl]
 have HFF := hid hFF
 have HSB := hid (SBox.alloc w S 70)
 have HB1 := hid ((Below.refl w.heap.size w).alloc (Nat.le_refl _) (.cells S.cells 70))
 clear hX hI hT h3 hIn hTn hx1 hy1 hF hy hyl hFF hyl2 hxl2
 unfold StepV.val
 unfold StepV.cells at HSB HB1
 go_enter Tryz.func76, Tryz.ntmps76
 go_upto_region 1 with fail
 generalize w.alloc (.cells (stC S) 70) = W1 at *
 have f11 := HSB.out.f11
 have f1 := HSB.out.f1
 have slt := HSB.out.lt
 go_upto_if 12 with fail
 go_cut [3] (fun s3 wx => AddCut W1 (y.map ratL) s3 wx)
 case first =>
  have f12 := HSB.out.f12
  by_cases hf : 0 <= S.fr
  ·obtain ⟨bY, oY, l, ay, cy, haY, yc0, hYi, hyc, hRy, hbY⟩ := HT.out.pick (k := S.fr.toNat) (by rw [List.length_map]; exact HF.out hf)
   have E : Hid (y.map ratL = l) := by
    unfold Hid
    rw [<- HY.out]
    unfold fromQ
    rw [List.getElem?_map] at hYi
    rw [if_pos hf, List.getD_eq_getElem?_getD]
    cases hz : Y[S.fr.toNat]? with
    | none => rw [hz] at hYi; cases hYi
    | some z => rw [hz] at hYi; exact Option.some.inj hYi
   have q0 : decide (0 <= S.fr) = true := decide_eq_true hf
   obtain ⟨f, hfn⟩ : ∃ f : Nat, S.fr = (f : Int) := ⟨S.fr.toNat, by omega⟩
   have hft : f < S.nT := by have := HF.out hf; have := HTn.out; omega
   have yc0 := (HB1.out.cell (p := ⟨bY, oY + S.fr.toNat, none⟩) hbY).trans yc0
   rw [show S.fr.toNat = f by omega] at yc0
   have HRy := hid (hRy.below HB1.out)
   have hbY2 := Nat.lt_of_lt_of_le hbY HB1.out.size
   rw [haY] at f12
   clear hYi hRy haY
   rw [hfn] at f1
   rw [q0]
   have HN2 : Hid (l.length = (y.map ratL).length) := by unfold Hid; rw [E.out]
   clear hf hfn q0
   go_wp2
   go_meet
   exact ⟨rfl, _, _, _, rfl, HN2.out, by rw [E.out]; exact HRy.out⟩
  ·have q0 : decide (0 <= S.fr) = false := decide_eq_false hf
   have HRy : Hid (RatsAt W1 S.ai (y.map ratL)) := by
    unfold Hid
    rw [<- HY.out]
    unfold fromQ
    rw [if_neg hf]
    exact HIn.out.below HB1.out
   have HNl : Hid (S.ni = (y.map ratL).length) := by
    unfold Hid
    rw [<- HY.out, List.length_map, <- HN.out]
    unfold fromQ
    rw [if_neg hf]
   rw [q0]
   clear hf q0
   go_wp2
   go_meet
   exact ⟨rfl, _, _, _, rfl, HNl.out, HRy.out⟩
 case rest =>
  obtain ⟨rfl, aF, cF, nF, rfl, hnF, hRF⟩ := hcut
  have HRF := hid hRF
  have HNF := hid hnF
  clear hnF hRF
  have f10 := HSB.out.f10
  clear f11 f1
  go_wp2
  clear f10
  go_loopw [4, 23] (fun v i wr => ∃ (k : Nat) (a : Option Addr) (c : Nat), k <= S.nx /\ v = .slice a k c /\ i = .int .i64 (k : Int) /\ Hid (OutI W1 wr (.slice a k c) (((List.range k).map FF).map ratL))) (fun _ i _ => S.nx - (intOf i).toNat)
  case atStart => exact ⟨0, none, 0, Nat.zero_le _, rfl, rfl, OutI.start W1⟩
  case round =>
   obtain ⟨k, b0, k0, hk, rfl, rfl, HOut⟩ := hrel
   by_cases hlt : k < S.nx
   ·have hbr : Below w.heap.size w wr := HB1.out.trans (HOut.out.bl.mono HB1.out.size)
    obtain ⟨bx, ox, u, un, ud, ucn, ucd, hax, hbx, hu, uc0, uc1, uc2, huv⟩ := HX.out.pick (k := k) (by rw [List.length_map, H3.out]; exact hlt)
    have hky : k < y.length := by have := HYl.out; have := H3.out; omega
    obtain ⟨by1, oy, z, zn, zd, zcn, zcd, rfl, hby, hz, zc0, zc1, zc2, hzv⟩ := HRF.out.pick (k := k) (by rw [List.length_map]; exact hky)
    have hkn : k < nF := by have := HNF.out; rw [List.length_map] at this; omega
    obtain ⟨hu1, hu2⟩ := map_get hu
    obtain ⟨hz1, hz2⟩ := map_get hz
    obtain ⟨u2, u3, u4, u5⟩ := huv.parts
    obtain ⟨s1, hs1⟩ : ∃ s1, s1 = ratL (FF k) := ⟨_, rfl⟩
    have hq : ratL (ratOf u + ratOf z) = s1 := by rw [hs1, hu1, hz1, HFF.out]
    have e1 : RatLe u 1048575 := by rw [hu2]; exact Hx1.out _ (by rw [List.getD_eq_getElem?_getD, List.getElem?_eq_getElem (by rw [H3.out]; exact hlt)]; exact List.getElem_mem _)
    have e2 : RatLe z 1048575 := by rw [hz2]; exact Hy1.out _ (by rw [List.getD_eq_getElem?_getD, List.getElem?_eq_getElem hky]; exact List.getElem_mem _)
    have hal : Below wr.heap.size wr (wr.alloc (ratO u un ucn ud ucd 37)) := (Below.refl _ _).alloc (Nat.le_refl _) _
    have HO2 := hid (HOut.out.below hal)
    have HUb := hid (Box3.alloc wr (.bool u.neg) (.slice un u.num.length ucn) (.slice ud u.den.length ucd) 37)
    have HAl := hid hal
    have HUv := hid ((huv.below hbr).below hal)
    have HZv := hid ((hzv.below HOut.out.bl).below hal)
    have uc0 := (hbr.cell (p := ⟨bx, ox + k * 3, none⟩) hbx).trans uc0
    have uc1 := (hbr.cell (p := ⟨bx, ox + k * 3 + 1, none⟩) hbx).trans uc1
    have uc2 := (hbr.cell (p := ⟨bx, ox + k * 3 + 2, none⟩) hbx).trans uc2
    have hbx2 := Nat.lt_of_lt_of_le hbx hbr.size
    have HZc : Hid (∀ W, Below wr.heap.size wr W -> W.cell? ⟨by1, oy + k * 3, none⟩ = some (.bool z.neg) /\ W.cell? ⟨by1, oy + k * 3 + 1, none⟩ = some (.slice zn z.num.length zcn) /\ W.cell? ⟨by1, oy + k * 3 + 2, none⟩ = some (.slice zd z.den.length zcd)) := fun W hb => by
     have hb2 := HOut.out.bl.trans (hb.mono HOut.out.bl.size)
     exact ⟨(hb2.cell hby).trans zc0, (hb2.cell hby).trans zc1, (hb2.cell hby).trans zc2⟩
    have HE := hid (And.intro e1 e2)
    have HQ := hid hq
    have HStep : Hid (((List.range (k + 1)).map FF).map ratL = ((List.range k).map FF).map ratL ++ [s1]) := by unfold Hid; rw [hs1]; simp [List.range_succ]
    have HLn : Hid ((((List.range k).map FF).map ratL).length = k) := by unfold Hid; simp
    rw [hax]
    clear hu hu1 hu2 hz hz1 hz2 hs1 hq e1 e2 u4 u5 huv hzv zc0 zc1 zc2 hax hbr hal
    go_upto_region 8 with fail
    generalize wr.alloc (ratO u un ucn ud ucd 37) = wj at *
    clear uc0 uc1 uc2
    have HAdd : Hid (∀ W, Below wj.heap.size wj W -> Calls Tryz.prog 100 #[.agg #[.bool u.neg, .slice un u.num.length ucn, .slice ud u.den.length ucd], .agg #[.bool z.neg, .slice zn z.num.length zcn, .slice zd z.den.length zcd]] W (RetR W s1)) := fun W hb => by
     have h := rAdd (HUv.out.below hb) (HZv.out.below hb) HE.out.1 HE.out.2
     rw [HQ.out] at h
     exact h
    have HCe : Hid (∀ W, Below wj.heap.size wj W -> W.cell? ⟨wr.heap.size, 0, none⟩ = some (.bool u.neg) /\ W.cell? ⟨wr.heap.size, 1, none⟩ = some (.slice un u.num.length ucn) /\ W.cell? ⟨wr.heap.size, 2, none⟩ = some (.slice ud u.den.length ucd) /\
      W.cell? ⟨by1, oy + k * 3, none⟩ = some (.bool z.neg) /\ W.cell? ⟨by1, oy + k * 3 + 1, none⟩ = some (.slice zn z.num.length zcn) /\ W.cell? ⟨by1, oy + k * 3 + 2, none⟩ = some (.slice zd z.den.length zcd)) := fun W hb =>
     ⟨(hb.cell HUb.out.lt).trans HUb.out.c0, (hb.cell HUb.out.lt).trans HUb.out.c1, (hb.cell HUb.out.lt).trans HUb.out.c2, HZc.out W (HAl.out.trans (hb.mono HAl.out.size))⟩
    have hul := HUb.out.lt
    refine wp_region_slots_tail 8 (by kernel_rfl) (by kernel_rfl) (by kernel_rfl) (by kernel_rfl) (by decide) (From wj.heap.size wj) (fun w w' => Below w.heap.size w w') (GR [.val (.slice b0 k k0), .val (.agg #[.bool u.neg, .slice un u.num.length ucn, .slice ud u.den.length ucd]), .val (.slice (some ⟨by1, oy, none⟩) nF cF), .val (.int .i64 (k : Int)), .val (.pointer (some ⟨by1, oy + k * 3, none⟩)), .val (.agg #[.bool z.neg, .slice zn z.num.length zcn, .slice zd z.den.length zcd]), .rat s1, .row s1]) (fun i v w w' h hb => GR_below h hb) (From.start (Nat.le_refl _)) ?_ ?_
    ·intro ops
     simp only [List.take_succ_cons, List.take_zero, Shows]
     refine ⟨?_, ?_, ?_, ?_, ?_, ?_, ?_, ?_, trivial⟩
     all_goals (intro g W hR hL; have hB := hR.base; obtain ⟨uc0, uc1, uc2, zc0, zc1, zc2⟩ := HCe.out W hR.be; simp only [Laid, Region.binds, forall_const, Bool.false_eq_true, false_implies, GR, List.getElem?_cons_zero, List.getElem?_cons_succ] at hL; simp [fillFrom, Act.put])
     ·clear hL
      have HR := hid hR
      clear hR
      go_wp2
      first | exact ⟨_, rfl, HR.out, Below.refl _ _, rfl⟩ | exact ⟨HR.out, Below.refl _ _, rfl⟩
     ·clear hL
      have HR := hid hR
      clear hR
      go_wp2
      first | exact ⟨_, rfl, HR.out, Below.refl _ _, rfl⟩ | exact ⟨HR.out, Below.refl _ _, rfl⟩
     ·clear hL
      have HR := hid hR
      clear hR
      go_wp2
      first | exact ⟨_, rfl, HR.out, Below.refl _ _, rfl⟩ | exact ⟨HR.out, Below.refl _ _, rfl⟩
     ·clear hL
      have HR := hid hR
      clear hR
      go_wp2
      first | exact ⟨_, rfl, HR.out, Below.refl _ _, rfl⟩ | exact ⟨HR.out, Below.refl _ _, rfl⟩
     ·generalize g 2 = y2 at hL ⊢
      generalize g 3 = y3 at hL ⊢
      obtain ⟨rfl, rfl, _⟩ := hL
      have HR := hid hR
      clear hR
      go_wp2
      first | exact ⟨_, rfl, HR.out, Below.refl _ _, rfl⟩ | exact ⟨HR.out, Below.refl _ _, rfl⟩
     ·generalize g 4 = y4 at hL ⊢
      obtain ⟨rfl, _⟩ := hL
      have HR := hid hR
      clear hR
      go_wp2
      first | exact ⟨_, rfl, HR.out, Below.refl _ _, rfl⟩ | exact ⟨HR.out, Below.refl _ _, rfl⟩
     ·generalize g 1 = y1 at hL ⊢
      generalize g 5 = y5 at hL ⊢
      obtain ⟨rfl, rfl, _⟩ := hL
      have HR := hid hR
      clear hR
      have HCt := hid (HAdd.out W HR.out.be)
      go_wp2_with fail
      refine HCt.out.mono ?_
      rintro e w1 ⟨v1, rfl, kv, kb⟩
      have KV := hid kv
      have KB := hid kb
      clear kv kb HCt
      go_wp2
      first | exact ⟨_, rfl, ⟨Nat.le_trans HR.out.base KB.out.size, HR.out.be.trans (KB.out.mono HR.out.base)⟩, KB.out, KV.out⟩ | exact ⟨⟨Nat.le_trans HR.out.base KB.out.size, HR.out.be.trans (KB.out.mono HR.out.base)⟩, KB.out, KV.out⟩
     ·generalize g 6 = y6 at hL ⊢
      obtain ⟨H6, _⟩ := hL
      have K6 := hid H6
      have HR := hid hR
      clear hR H6
      obtain ⟨bn', bd', dn', dd', rfl, g2, g3, g4, g5⟩ := K6.out.ex
      have HRow := hid (Row1.alloc g2 g3 g4 g5 37)
      have HBa := hid ((Below.refl W.heap.size W).alloc (Nat.le_refl _) (ratO s1 bn' dn' bd' dd' 37))
      clear g4 g5 K6
      go_wp2
      first | exact ⟨_, rfl, ⟨Nat.le_trans HR.out.base HBa.out.size, HR.out.be.trans (HBa.out.mono HR.out.base)⟩, HBa.out, HRow.out⟩ | exact ⟨⟨Nat.le_trans HR.out.base HBa.out.size, HR.out.be.trans (HBa.out.mono HR.out.base)⟩, HBa.out, HRow.out⟩
    ·intro ops g W hR hL
     have hB := hR.base
     have J0 := hL.1.1.1.1.1.1.1.2
     have J7 := hL.2
     simp only [GR, List.getElem?_cons_zero, List.getElem?_cons_succ] at J0 J7
     obtain ⟨uc0, uc1, uc2, zc0, zc1, zc2⟩ := HCe.out W hR.be
     clear hL
     simp only [List.take_succ_cons, List.take_zero, List.drop_succ_cons, List.drop_zero]
     simp [fillFrom, Act.put]
     generalize g 0 = y0 at J0 ⊢
     obtain rfl := J0
     generalize g 7 = y7 at J7 ⊢
     have HR := hid hR
     clear hR
     have HO := hid (HO2.out.below HR.out.be)
     have HJ := hid J7
     clear J7
     go_wp2_with (at_builtin; refine wpList_appR rfl (.tmp 28) (.tmp 35) 26 rfl W1.heap.size Tryz.underlying26 Tryz.infoRat (.slice b0 k k0) k _ HLn.out rfl HO.out.own y7 s1 HJ.out rfl (by omega) HO.out.bl.size ?_; intro b3 k3 w3 hown hk3 hg hbe)
     have HOut3 := hid (show OutI W1 w3 (.slice b3 (k + 1) k3) (((List.range (k + 1)).map FF).map ratL) from ⟨by rw [HStep.out]; exact hown, HO.out.bl.trans hbe⟩)
     clear hown hg hbe
     go_wp2
     go_roundw
     case rel => exact ⟨k + 1, b3, k3, hlt, rfl, by go_num, HOut3.out⟩
     case measure => simp [intOf]; omega
   ·obtain rfl : k = S.nx := by omega
    go_wp2
    have hNP : RowRet w (((List.range S.nx).map FF).map ratL) (.returned (.slice b0 S.nx k0)) wr := HOut.out.ret (by simp) (by omega) HB1.out
    exact bodyPost_ret (v := .slice b0 S.nx k0) (by simp [results, Tryz.results76, go_sem]) rfl hNP
end Go.Proofs.YtoppijdedkdjeaaGreat
