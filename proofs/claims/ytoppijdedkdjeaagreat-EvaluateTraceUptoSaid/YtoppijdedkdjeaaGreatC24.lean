/-
  Contracts of the functions that the statement reaches: EvA, RefV, EvB.
-/
import Derived.Test.YtoppijdedkdjeaaGreatC23
set_option linter.unusedVariables false
set_option linter.unusedSimpArgs false
set_option linter.constructorNameAsVariable false
set_option linter.deprecated false
set_option maxRecDepth 100000
set_option maxHeartbeats 3200000
namespace Go.Proofs.YtoppijdedkdjeaaGreat
open Go.RowKit
open Go.Lib (hid)
structure SmI (w wr : World) (b : Rat) (ws : List Rat) (ix : List Int) (x : List Rat) (k : Nat) : Prop where
 box : RBox wr w.heap.size (ratL (psum b ws 0 ix x k))
 res : RNil wr (w.heap.size + 1)
 bl : Below w.heap.size w wr
theorem SmI.step {w wr W : World} {b : Rat} {ws : List Rat} {ix : List Int} {x : List Rat} {k k' : Nat} {y : RatL} {bn bd : Option Addr} {dn dd : Nat} (h : SmI w wr b ws ix x k) (hb : Below wr.heap.size wr W) (hy : ratL (psum b ws 0 ix x k') = y)
  (g2 : y.num.length <= dn) (g3 : y.den.length <= dd) (g4 : U32s W bn y.num) (g5 : U32s W bd y.den) :
  SmI w (((W.setCell ⟨w.heap.size, 0, none⟩ (.bool y.neg)).setCell ⟨w.heap.size, 1, none⟩ (.slice bn y.num.length dn)).setCell ⟨w.heap.size, 2, none⟩ (.slice bd y.den.length dd)) b ws ix x k' := by
 refine ⟨?_, (h.res.below hb).far3 (by omega) _ _ _, keep_store3 (h.bl.trans (hb.mono h.bl.size)) _ _ _⟩
 rw [hy]
 exact (h.box.below hb).store g2 g3 g4 g5
theorem getD_of {α : Type} {l : List α} {k : Nat} {x d : α} (h : l[k]? = some x) : l.getD k d = x := by rw [List.getD_eq_getElem?_getD, h]; rfl
theorem map_get {l : List Rat} {k : Nat} {u : RatL} (h : (l.map ratL)[k]? = some u) : ratOf u = l.getD k 0 /\ u = ratL (l.getD k 0) := by
 rw [List.getElem?_map] at h
 cases hx : l[k]? with
 | none => rw [hx] at h; cases h
 | some q =>
  rw [hx] at h
  simp only [Option.map_some, Option.some.injEq] at h
  subst h
  rw [getD_of hx, ratOf_ratL]
  exact ⟨rfl, rfl⟩
theorem r14Sum {w : World} {vb : Value} {b : Rat} {aw ai ax : Option Addr} {ws : List Rat} {ix : List Int} {x : List Rat} {F : Nat -> Prop} (cw ci cx : Nat) (hv : RatV w vb (ratL b)) (hW : RatsAt w aw (ws.map ratL)) (hI : Ints w F ai ix) (hX : RatsAt w ax (x.map ratL))
  (hlen : ix.length <= ws.length) (hix : ∀ k n : Nat, k < ix.length -> ix.getD k 0 = (n : Int) -> n < x.length) (hw1 : ∀ q ∈ ws, RatLe (ratL q) 1048575) (hx1 : ∀ q ∈ x, RatLe (ratL q) 1048575)
  (hp : ∀ p ∈ ws, ∀ q ∈ x, RatLe (ratL (p * q)) 524286) (hs : ∀ k, k <= ix.length -> RatLe (ratL (psum b ws 0 ix x k)) 524286) :
  Calls Tryz.prog 77 #[vb, .slice aw ws.length cw, .slice ai ix.length ci, .slice ax x.length cx] w (RetR w (ratL (sumQ b ws 0 ix x))) := by
 obtain ⟨an, ad, cn, cd, rfl, b2, b3, b4, b5⟩ := hv.ex
 have hwl := hW.len
 have hxl := hX.len
 have hil := hI.len
 simp only [List.length_map] at hwl hxl
 have HW := hid hW
 have HI0 := hid hI
 have HX := hid hX
 have HIx := hid hix
 have Hw1 := hid hw1
 have Hx1 := hid hx1
 have Hp := hid hp
 have Hs := hid hs
 have hst := fun (W : World) (o : Obj) => (Below.refl W.heap.size W).alloc (Nat.le_refl _) o
 have hSm : SmI w ((w.alloc (.cells #[.bool (ratL b).neg, .slice an (ratL b).num.length cn, .slice ad (ratL b).den.length cd] 37)).alloc (zerO 37)) b ws ix x 0 := by
  refine ⟨(RBox.alloc b2 b3 b4 b5 _).below (hst _ _), ?_, (hst _ _).trans ((hst _ _).mono (by simp))⟩
  have := RNil.alloc (w.alloc (.cells #[.bool (ratL b).neg, .slice an (ratL b).num.length cn, .slice ad (ratL b).den.length cd] 37)) 37
  simpa using this
 have HSm := hid hSm
 have HEnd : Hid (ratL (sumQ b ws 0 ix x) = ratL (psum b ws 0 ix x ix.length)) := rfl
 generalize ratL (sumQ b ws 0 ix x) = RR at *
 clear hv hW hI hX hix hw1 hx1 hp hs hst hSm b4 b5
 go_enter Tryz.func77, Tryz.ntmps77
 go_upto_region 1 with fail
 generalize (w.alloc (.cells #[.bool (ratL b).neg, .slice an (ratL b).num.length cn, .slice ad (ratL b).den.length cd] 37)).alloc (zerO 37) = W0 at *
 go_wp2
 go_loopw [9] (fun i wr => ∃ k : Nat, k <= ix.length /\ i = .int .i64 (k : Int) /\ Hid (SmI w wr b ws ix x k)) (fun i _ => ix.length - (intOf i).toNat)
 case atStart => exact ⟨0, Nat.zero_le _, rfl, HSm.out⟩
 case round =>
  obtain ⟨k, hk, rfl, HI⟩ := hrel
  by_cases hlt : k < ix.length
  ·obtain ⟨bi, oi, d, rfl, ic, hd, _, hbi, _, hd1, hd2⟩ := HI0.out.pick2 hlt
   have hgd : ix.getD k 0 = d := getD_of hd
   by_cases h0 : 0 <= d
   ·obtain ⟨n, rfl⟩ : ∃ n : Nat, d = (n : Int) := ⟨d.toNat, by omega⟩
    have hnx := HIx.out k n hlt hgd
    obtain ⟨bw, ow, u, un, ud, ucn, ucd, rfl, hbw, hu, wc0, wc1, wc2, hwv⟩ := HW.out.pick (k := k) (by rw [List.length_map]; omega)
    obtain ⟨bx, ox, y, yn, yd, ycn, ycd, rfl, hbx, hyy, yc0, yc1, yc2, hyv⟩ := HX.out.pick (k := n) (by rw [List.length_map]; omega)
    obtain ⟨hu1, hu2⟩ := map_get hu
    obtain ⟨hy1, hy2⟩ := map_get hyy
    obtain ⟨s, hs⟩ : ∃ s, s = ratL (psum b ws 0 ix x k) := ⟨_, rfl⟩
    obtain ⟨s1, hs1⟩ : ∃ s1, s1 = ratL (psum b ws 0 ix x (k + 1)) := ⟨_, rfl⟩
    obtain ⟨pr, hpr⟩ : ∃ pr, pr = ratL (ratOf u * ratOf y) := ⟨_, rfl⟩
    have hq : ratL (ratOf s + ratOf pr) = s1 := by
     rw [hs, hpr, hs1, ratOf_ratL, ratOf_ratL, psum_step hgd, hu1, hy1, Nat.zero_add]
    have hmem : ws.getD k 0 ∈ ws := by
     rw [List.getD_eq_getElem?_getD, List.getElem?_eq_getElem (by omega)]; exact List.getElem_mem _
    have hmex : x.getD n 0 ∈ x := by
     rw [List.getD_eq_getElem?_getD, List.getElem?_eq_getElem (by omega)]; exact List.getElem_mem _
    obtain ⟨sn, sd, scn, scd, hbxs, s2, s3, s4, s5⟩ := (show RBox wr w.heap.size s from by rw [hs]; exact HI.out.box).ex
    have HMul : Hid (∀ W, Below wr.heap.size wr W -> Calls Tryz.prog 23 #[.agg #[.bool u.neg, .slice un u.num.length ucn, .slice ud u.den.length ucd], .agg #[.bool y.neg, .slice yn y.num.length ycn, .slice yd y.den.length ycd]] W (RetR W pr)) := fun W hb => by
     rw [hpr]
     have hbw2 := HI.out.bl.trans (hb.mono HI.out.bl.size)
     exact r3Mul (hwv.below hbw2) (hyv.below hbw2) (by rw [hu2]; exact Hw1.out _ hmem) (by rw [hy2]; exact Hx1.out _ hmex)
    have HAdd : Hid (∀ W, Below wr.heap.size wr W -> ∀ v, RatV W v pr -> Calls Tryz.prog 22 #[.agg #[.bool s.neg, .slice sn s.num.length scn, .slice sd s.den.length scd], v] W (RetR W s1)) := fun W hb v hv => by
     have h := r3Add (x := s) ⟨sn, sd, scn, scd, rfl, s2, s3, s4.below hb, s5.below hb⟩ hv (by rw [hs]; exact Hs.out k (by omega)) (by rw [hpr, hu1, hy1]; exact Hp.out _ hmem _ hmex)
     rw [hq] at h
     exact h
    have HCe : Hid (∀ W, Below wr.heap.size wr W -> W.cell? ⟨w.heap.size, 0, none⟩ = some (.bool s.neg) /\ W.cell? ⟨w.heap.size, 1, none⟩ = some (.slice sn s.num.length scn) /\ W.cell? ⟨w.heap.size, 2, none⟩ = some (.slice sd s.den.length scd) /\
      W.cell? ⟨bw, ow + k * 3, none⟩ = some (.bool u.neg) /\ W.cell? ⟨bw, ow + k * 3 + 1, none⟩ = some (.slice un u.num.length ucn) /\ W.cell? ⟨bw, ow + k * 3 + 2, none⟩ = some (.slice ud u.den.length ucd) /\ W.cell? ⟨bi, oi + k, none⟩ = some (.int .i64 (n : Int)) /\
      W.cell? ⟨bx, ox + n * 3, none⟩ = some (.bool y.neg) /\ W.cell? ⟨bx, ox + n * 3 + 1, none⟩ = some (.slice yn y.num.length ycn) /\ W.cell? ⟨bx, ox + n * 3 + 2, none⟩ = some (.slice yd y.den.length ycd)) := fun W hb => by
     have hbw2 := HI.out.bl.trans (hb.mono HI.out.bl.size)
     exact ⟨(hb.cell hbxs.lt).trans hbxs.c0, (hb.cell hbxs.lt).trans hbxs.c1, (hb.cell hbxs.lt).trans hbxs.c2, (hbw2.cell hbw).trans wc0, (hbw2.cell hbw).trans wc1, (hbw2.cell hbw).trans wc2, (hbw2.cell hbi).trans ic, (hbw2.cell hbx).trans yc0, (hbw2.cell hbx).trans yc1, (hbw2.cell hbx).trans yc2⟩
    have HS1 : Hid (ratL (psum b ws 0 ix x (k + 1)) = s1) := hs1.symm
    have ic0 := (HI.out.bl.cell (p := ⟨bi, oi + k, none⟩) hbi).trans ic
    have hkw : k < ws.length := by omega
    have q0 : decide ((0 : Int) <= (n : Int)) = true := decide_eq_true (by omega)
    clear hd hgd hu hyy hu1 hu2 hy1 hy2 hs hs1 hpr hq hmem hmex hbxs s4 s5 hwv hyv wc0 wc1 wc2 yc0 yc1 yc2 ic
    go_upto_region 5 with fail
    clear ic0
    refine wp_region_slots_tail 14 (by kernel_rfl) (by kernel_rfl) (by kernel_rfl) (by kernel_rfl) (by decide) (From wr.heap.size wr) (fun w w' => Below w.heap.size w w') (GR [.val (.agg #[.bool s.neg, .slice sn s.num.length scn, .slice sd s.den.length scd]), .val (.slice (some ⟨bw, ow, none⟩) ws.length cw), .val (.int .i64 (k : Int)), .val (.pointer (some ⟨bw, ow + k * 3, none⟩)), .val (.agg #[.bool u.neg, .slice un u.num.length ucn, .slice ud u.den.length ucd]), .val (.slice (some ⟨bx, ox, none⟩) x.length cx), .val (.slice (some ⟨bi, oi, none⟩) ix.length ci), .val (.int .i64 (k : Int)), .val (.pointer (some ⟨bi, oi + k, none⟩)), .val (.int .i64 (n : Int)), .val (.pointer (some ⟨bx, ox + n * 3, none⟩)), .val (.agg #[.bool y.neg, .slice yn y.num.length ycn, .slice yd y.den.length ycd]), .rat pr, .rat s1]) (fun i v w w' h hb => GR_below h hb) (From.start (Nat.le_refl _)) ?_ ?_
    ·intro ops
     simp only [List.take_succ_cons, List.take_zero, Shows]
     refine ⟨?_, ?_, ?_, ?_, ?_, ?_, ?_, ?_, ?_, ?_, ?_, ?_, ?_, ?_, trivial⟩
     all_goals (intro g W hR hL; have hB := hR.base; obtain ⟨x0, x1, x2, wc0, wc1, wc2, ic0, yc0, yc1, yc2⟩ := HCe.out W hR.be; simp only [Laid, Region.binds, forall_const, Bool.false_eq_true, false_implies, GR, List.getElem?_cons_zero, List.getElem?_cons_succ] at hL; simp [fillFrom, Act.put])
     ·clear hL
      have HR := hid hR
      clear hR
      go_wp2
      exact ⟨_, rfl, HR.out, Below.refl _ _, rfl⟩
     ·clear hL
      have HR := hid hR
      clear hR
      go_wp2
      exact ⟨_, rfl, HR.out, Below.refl _ _, rfl⟩
     ·clear hL
      have HR := hid hR
      clear hR
      go_wp2
      exact ⟨_, rfl, HR.out, Below.refl _ _, rfl⟩
     ·generalize g 1 = y1 at hL ⊢
      generalize g 2 = y2 at hL ⊢
      obtain ⟨rfl, rfl, _⟩ := hL
      have HR := hid hR
      clear hR
      go_wp2
      exact ⟨_, rfl, HR.out, Below.refl _ _, rfl⟩
     ·generalize g 3 = y3 at hL ⊢
      obtain ⟨rfl, _⟩ := hL
      have HR := hid hR
      clear hR
      go_wp2
      exact ⟨_, rfl, HR.out, Below.refl _ _, rfl⟩
     ·clear hL
      have HR := hid hR
      clear hR
      go_wp2
      exact ⟨_, rfl, HR.out, Below.refl _ _, rfl⟩
     ·clear hL
      have HR := hid hR
      clear hR
      go_wp2
      exact ⟨_, rfl, HR.out, Below.refl _ _, rfl⟩
     ·clear hL
      have HR := hid hR
      clear hR
      go_wp2
      exact ⟨_, rfl, HR.out, Below.refl _ _, rfl⟩
     ·generalize g 6 = y6 at hL ⊢
      generalize g 7 = y7 at hL ⊢
      obtain ⟨rfl, rfl, _⟩ := hL
      have HR := hid hR
      clear hR
      go_wp2
      exact ⟨_, rfl, HR.out, Below.refl _ _, rfl⟩
     ·generalize g 8 = y8 at hL ⊢
      obtain ⟨rfl, _⟩ := hL
      have HR := hid hR
      clear hR
      go_wp2
      exact ⟨_, rfl, HR.out, Below.refl _ _, rfl⟩
     ·generalize g 5 = y5 at hL ⊢
      generalize g 9 = y9 at hL ⊢
      obtain ⟨rfl, rfl, _⟩ := hL
      have HR := hid hR
      clear hR
      go_wp2
      exact ⟨_, rfl, HR.out, Below.refl _ _, rfl⟩
     ·generalize g 10 = y10 at hL ⊢
      obtain ⟨rfl, _⟩ := hL
      have HR := hid hR
      clear hR
      go_wp2
      exact ⟨_, rfl, HR.out, Below.refl _ _, rfl⟩
     ·generalize g 4 = y4 at hL ⊢
      generalize g 11 = y11 at hL ⊢
      obtain ⟨rfl, rfl, _⟩ := hL
      have HR := hid hR
      clear hR
      have HCt := hid (HMul.out W HR.out.be)
      go_wp2_with fail
      refine HCt.out.mono ?_
      rintro e w1 ⟨v1, rfl, kv, kb⟩
      have KV := hid kv
      have KB := hid kb
      clear kv kb HCt
      go_wp2
      exact ⟨_, rfl, ⟨Nat.le_trans HR.out.base KB.out.size, HR.out.be.trans (KB.out.mono HR.out.base)⟩, KB.out, KV.out⟩
     ·generalize g 0 = y0 at hL ⊢
      generalize g 12 = y12 at hL ⊢
      obtain ⟨rfl, H12, _, _⟩ := hL
      have K12 := hid H12
      have HR := hid hR
      clear hR H12
      have HCt := hid (HAdd.out W HR.out.be _ K12.out)
      go_wp2_with fail
      refine HCt.out.mono ?_
      rintro e w1 ⟨v1, rfl, kv, kb⟩
      have KV := hid kv
      have KB := hid kb
      clear kv kb HCt
      go_wp2
      exact ⟨_, rfl, ⟨Nat.le_trans HR.out.base KB.out.size, HR.out.be.trans (KB.out.mono HR.out.base)⟩, KB.out, KV.out⟩
    ·intro ops g W hR hL
     have hB := hR.base
     have J13 := hL.2
     simp only [GR, List.getElem?_cons_zero, List.getElem?_cons_succ] at J13
     obtain ⟨x0, x1, x2, wc0, wc1, wc2, ic0, yc0, yc1, yc2⟩ := HCe.out W hR.be
     clear hL
     simp only [List.take_succ_cons, List.take_zero, List.drop_succ_cons, List.drop_zero]
     simp [fillFrom, Act.put]
     generalize g 13 = y13 at J13 ⊢
     have HR := hid hR
     clear hR
     obtain ⟨bn', bd', dn', dd', rfl, g2, g3, g4, g5⟩ := J13.ex
     have HBe := hid (show Below wr.heap.size wr W from HR.out.be)
     have HBx := hid (HI.out.box.below HBe.out)
     obtain ⟨_, _, _, _, ⟨_, _, _, zf, zlt⟩, _⟩ := HBx.out.ex
     have HStep := hid (HI.out.step HBe.out (k' := k + 1) HS1.out g2 g3 g4 g5)
     clear g4 g5 J13
     go_wp2
     go_roundw
     case rel => exact ⟨k + 1, hlt, by go_num, HStep.out⟩
     case measure => simp [intOf]; omega
   ·have hsk : psum b ws 0 ix x (k + 1) = psum b ws 0 ix x k := psum_skip (by rw [hgd]; exact h0)
    have ic0 := (HI.out.bl.cell (p := ⟨bi, oi + k, none⟩) hbi).trans ic
    have HStep : Hid (SmI w wr b ws ix x (k + 1)) := ⟨by rw [hsk]; exact HI.out.box, HI.out.res, HI.out.bl⟩
    have q0 : decide (0 <= d) = false := decide_eq_false h0
    clear hd hgd hsk ic
    go_wp2
    go_roundw
    case rel => exact ⟨k + 1, hlt, by go_num, HStep.out⟩
    case measure => simp [intOf]; omega
  ·obtain rfl : k = ix.length := by omega
   have hbx : RBox wr w.heap.size RR := by rw [HEnd.out]; exact HI.out.box
   obtain ⟨sn, sd, scn, scd, ⟨x0, x1, x2, _, xlt⟩, s2, s3, s4, s5⟩ := hbx.ex
   obtain ⟨hS, hV⟩ := HI.out.res.put s2 s3 s4 s5
   have HS := hid hS
   have HV := hid hV
   have HBl := hid (below_store3 HI.out.bl (Nat.le_succ _) (.bool RR.neg) (.slice sn RR.num.length scn) (.slice sd RR.den.length scd))
   obtain ⟨y0, y1, y2, yf, ylt⟩ := HI.out.res.c
   clear hbx hS hV s4 s5
   go_wp2
   obtain ⟨z0, z1, z2, zf, zlt⟩ := HS.out
   have hNP : RetR w RR (.returned (.agg #[.bool RR.neg, .slice sn RR.num.length scn, .slice sd RR.den.length scd])) (((wr.setCell ⟨w.heap.size + 1, 0, none⟩ (.bool RR.neg)).setCell ⟨w.heap.size + 1, 1, none⟩ (.slice sn RR.num.length scn)).setCell ⟨w.heap.size + 1, 2, none⟩ (.slice sd RR.den.length scd)) := ⟨_, rfl, HV.out, HBl.out⟩
   generalize ((wr.setCell ⟨w.heap.size + 1, 0, none⟩ (.bool RR.neg)).setCell ⟨w.heap.size + 1, 1, none⟩ (.slice sn RR.num.length scn)).setCell ⟨w.heap.size + 1, 2, none⟩ (.slice sd RR.den.length scd) = Y at *
   exact bodyPost_ret (v := .agg #[.bool RR.neg, .slice sn RR.num.length scn, .slice sd RR.den.length scd]) (by simp [results, Tryz.results77, go_sem, z0, z1, z2]) rfl hNP
theorem cmpQ_max (p q : Rat) : (decide (0 <= cmpQ p q) = true /\ maxQ p q = p) ∨ (decide (0 <= cmpQ p q) = false /\ maxQ p q = q) := by
 by_cases h : p < q
 ·right
  refine ⟨?_, ?_⟩
  ·apply decide_eq_false
   unfold cmpQ
   rw [if_pos h]; decide
  ·unfold maxQ; rw [if_neg (Rat.not_le.2 h)]
 ·left
  refine ⟨?_, ?_⟩
  ·apply decide_eq_true
   unfold cmpQ
   rw [if_neg h]; split <;> decide
  ·unfold maxQ; rw [if_pos (Rat.not_lt.1 h)]
theorem r3Max {w : World} {v u : Value} {x y : RatL} (hv : RatV w v x) (hu : RatV w u y) (hx : RatLe x 524286) (hy : RatLe y 524285) :
  Calls Tryz.prog 33 #[v, u] w (RetR w (ratL (maxQ (ratOf x) (ratOf y)))) := by
 have HV := hid hv
 have HU := hid hu
 obtain ⟨an, ad, cn, cd, rfl, a2, a3, a4, a5⟩ := hv.ex
 obtain ⟨bn, bd, dn, dd, rfl, b2, b3, b4, b5⟩ := hu.ex
 have HLx := hid (hx.mono (show 524286 <= 1048576 by omega))
 have HLy := hid (hy.mono (show 524285 <= 1048576 by omega))
 have HM := hid (cmpQ_max (ratOf x) (ratOf y))
 have hCx : Hid (canonL x = ratL (ratOf x)) := canonL_ratL x
 have hCy : Hid (canonL y = ratL (ratOf y)) := canonL_ratL y
 generalize maxQ (ratOf x) (ratOf y) = M at *
 clear hv hu a4 a5 b4 b5
 go_enter Tryz.func33, Tryz.ntmps33
 go_wp2_with fail
 have hF := TwoR.mk' w (.bool x.neg) (.slice an x.num.length cn) (.slice ad x.den.length cd) (.bool y.neg) (.slice bn y.num.length dn) (.slice bd y.den.length dd) 37
 generalize ((w.alloc (ratO x an cn ad cd 37)).alloc (ratO y bn dn bd dd 37)).alloc (zerO 37) = W at *
 have HF := hid hF
 have HVW := hid (HV.out.below hF.bl)
 have HUW := hid (HU.out.below hF.bl)
 have HC := hid (r3Cmp HVW.out HUW.out hx hy)
 generalize cmpQ (ratOf x) (ratOf y) = cc at *
 clear hF HV HU hx hy
 refine HC.out.mono ?_
 rintro e w1 ⟨rfl, hb1⟩
 have HF1 := hid (HF.out.below hb1)
 have HV1 := hid (HVW.out.below hb1)
 have HU1 := hid (HUW.out.below hb1)
 clear hb1 HF HVW HUW HC
 rcases HM.out with ⟨q1, e1⟩ | ⟨q1, e1⟩
 ·have hK := r3Canon HV1.out HLx.out
  rw [hCx.out, <- e1] at hK
  have HK := hid hK
  obtain ⟨x0, x1, x2, _, xlt⟩ := HF1.out.a
  clear hK e1
  generalize ratL M = R at *
  go_wp2_with fail
  refine HK.out.mono ?_
  rintro e w2 ⟨v2, rfl, ⟨bn', bd', m1, m2, rfl, k3, k4, k5, k6⟩, k2⟩
  obtain ⟨r0, r1, r2, rf, rlt⟩ := HF1.out.c.below k2
  have hN5 := hid (HF1.out.nc.below k2 HF1.out.c.lt)
  have K5 := hid k5
  have K6 := hid k6
  have hB5 := hid (HF1.out.bl.trans (k2.mono (by have := HF1.out.a.lt; omega)))
  clear HK k5 k6 k2
  go_wp2
  exact bodyPost_ret (v := .agg #[.bool R.neg, .slice bn' R.num.length m1, .slice bd' R.den.length m2]) (by simp [results, Tryz.results33, go_sem, r0, r1, r2]) rfl ⟨_, rfl, RatV.store hN5.out k3 k4 K5.out K6.out, below_store3 hB5.out (by omega) _ _ _⟩
 ·have hK := r3Canon HU1.out HLy.out
  rw [hCy.out, <- e1] at hK
  have HK := hid hK
  obtain ⟨x0, x1, x2, _, xlt⟩ := HF1.out.b
  clear hK e1
  generalize ratL M = R at *
  go_wp2_with fail
  refine HK.out.mono ?_
  rintro e w2 ⟨v2, rfl, ⟨bn', bd', m1, m2, rfl, k3, k4, k5, k6⟩, k2⟩
  obtain ⟨r0, r1, r2, rf, rlt⟩ := HF1.out.c.below k2
  have hN5 := hid (HF1.out.nc.below k2 HF1.out.c.lt)
  have K5 := hid k5
  have K6 := hid k6
  have hB5 := hid (HF1.out.bl.trans (k2.mono (by have := HF1.out.a.lt; omega)))
  clear HK k5 k6 k2
  go_wp2
  exact bodyPost_ret (v := .agg #[.bool R.neg, .slice bn' R.num.length m1, .slice bd' R.den.length m2]) (by simp [results, Tryz.results33, go_sem, r0, r1, r2]) rfl ⟨_, rfl, RatV.store hN5.out k3 k4 K5.out K6.out, below_store3 hB5.out (by omega) _ _ _⟩
def RetTD (w : World) (x : RatL) (e : Ending) (w' : World) : Prop := ∃ v, e = .returned (.tuple #[v, .int .i64 0]) /\ RatV w' v x /\ Below w.heap.size w w'
structure PoI (w wr : World) (q : Rat) : Prop where
 box : RBox wr (w.heap.size + 1) (ratL q)
 res : RNil wr w.heap.size
 bl : Below w.heap.size w wr
theorem PoI.step {w wr W : World} {q q' : Rat} {y : RatL} {bn bd : Option Addr} {dn dd : Nat} (h : PoI w wr q) (hb : Below wr.heap.size wr W) (hy : ratL q' = y)
  (g2 : y.num.length <= dn) (g3 : y.den.length <= dd) (g4 : U32s W bn y.num) (g5 : U32s W bd y.den) :
  PoI w (((W.setCell ⟨w.heap.size + 1, 0, none⟩ (.bool y.neg)).setCell ⟨w.heap.size + 1, 1, none⟩ (.slice bn y.num.length dn)).setCell ⟨w.heap.size + 1, 2, none⟩ (.slice bd y.den.length dd)) q' := by
 refine ⟨?_, (h.res.below hb).far3 (by omega) _ _ _, below_store3 (h.bl.trans (hb.mono h.bl.size)) (Nat.le_succ _) _ _ _⟩
 rw [hy]
 exact (h.box.below hb).store g2 g3 g4 g5
structure PdJ (w wr : World) (S A : Value) (m : Nat) (nR RR : RatL) (q : Rat) (d : Nat -> Bool) (g : Nat -> Value) (W : World) : Prop where
 bl : d 8 = false -> Below wr.heap.size wr W
 v0 : d 0 = true -> g 0 = S
 v1 : d 1 = true -> g 1 = A
 v2 : d 2 = true -> g 2 = .int .i64 (m : Int)
 v3 : d 3 = true -> d 4 = false -> RatV W (g 3) nR
 v4 : d 4 = true -> ∃ u, g 4 = .tuple #[u, .int .i64 0] /\ (d 8 = false -> RatV W u RR) /\ (d 5 = true -> g 5 = .tuple #[u, .int .i64 0]) /\ (d 6 = true -> g 6 = u)
 e4 : d 4 = true -> d 0 = true /\ d 3 = true
 e5 : d 5 = true -> d 4 = true
 e6 : d 6 = true -> d 5 = true
 e8 : d 8 = true -> d 6 = true
 fin : d 8 = true -> PoI w W q
section
variable {w wr W : World} {S A : Value} {m : Nat} {nR RR : RatL} {q : Rat} {d : Nat -> Bool} {g : Nat -> Value}
theorem PdJ.n8 (h : PdJ w wr S A m nR RR q d g W) (h6 : d 6 = false) : d 8 = false := by
 cases h8 : d 8 with
 | false => rfl
 | true => exact absurd ((h.e8 h8).symm.trans h6) (by decide)
theorem PdJ.n6 (h : PdJ w wr S A m nR RR q d g W) (h5 : d 5 = false) : d 6 = false := by
 cases h8 : d 6 with
 | false => rfl
 | true => exact absurd ((h.e6 h8).symm.trans h5) (by decide)
theorem PdJ.n5 (h : PdJ w wr S A m nR RR q d g W) (h4 : d 4 = false) : d 5 = false := by
 cases h8 : d 5 with
 | false => rfl
 | true => exact absurd ((h.e5 h8).symm.trans h4) (by decide)
theorem PdJ.n4 (h : PdJ w wr S A m nR RR q d g W) (h3 : d 3 = false ∨ d 0 = false) : d 4 = false := by
 cases h8 : d 4 with
 | false => rfl
 | true => exact h3.elim (fun h3 => absurd ((h.e4 h8).2.symm.trans h3) (by decide)) (fun h3 => absurd ((h.e4 h8).1.symm.trans h3) (by decide))
theorem PdJ.start (hb : Below wr.heap.size wr W) (g : Nat -> Value) : PdJ w wr S A m nR RR q (fun _ => false) g W :=
 ⟨fun _ => hb, fun h => absurd h (by decide), fun h => absurd h (by decide), fun h => absurd h (by decide), fun h => absurd h (by decide), fun h => absurd h (by decide), fun h => absurd h (by decide), fun h => absurd h (by decide), fun h => absurd h (by decide), fun h => absurd h (by decide), fun h => absurd h (by decide)⟩
theorem PdJ.grow {W' : World} (h : PdJ w wr S A m nR RR q d g W) (h8 : d 8 = false) (hb : Below W.heap.size W W') : PdJ w wr S A m nR RR q d g W' :=
 ⟨fun k => (h.bl k).trans (hb.mono (h.bl k).size), h.v0, h.v1, h.v2, fun k1 k2 => (h.v3 k1 k2).below hb, fun k => let ⟨u, q1, q2, q3⟩ := h.v4 k; ⟨u, q1, fun k8 => (q2 k8).below hb, q3⟩, h.e4, h.e5, h.e6, h.e8, fun k => absurd (k.symm.trans h8) (by decide)⟩
theorem PdJ.s0 (h : PdJ w wr S A m nR RR q d g W) : PdJ w wr S A m nR RR q (mark d 0) (upd g 0 S) W := ⟨h.bl, fun _ => rfl, h.v1, h.v2, h.v3, h.v4, fun k => ⟨rfl, (h.e4 k).2⟩, h.e5, h.e6, h.e8, h.fin⟩
theorem PdJ.s1 (h : PdJ w wr S A m nR RR q d g W) : PdJ w wr S A m nR RR q (mark d 1) (upd g 1 A) W := ⟨h.bl, h.v0, fun _ => rfl, h.v2, h.v3, h.v4, h.e4, h.e5, h.e6, h.e8, h.fin⟩
theorem PdJ.s2 (h : PdJ w wr S A m nR RR q d g W) : PdJ w wr S A m nR RR q (mark d 2) (upd g 2 (.int .i64 (m : Int))) W := ⟨h.bl, h.v0, h.v1, fun _ => rfl, h.v3, h.v4, h.e4, h.e5, h.e6, h.e8, h.fin⟩
theorem PdJ.s3 {v : Value} (h : PdJ w wr S A m nR RR q d g W) (hv : RatV W v nR) : PdJ w wr S A m nR RR q (mark d 3) (upd g 3 v) W := ⟨h.bl, h.v0, h.v1, h.v2, fun _ _ => hv, h.v4, fun k => ⟨(h.e4 k).1, rfl⟩, h.e5, h.e6, h.e8, h.fin⟩
theorem PdJ.s4 {u : Value} (h : PdJ w wr S A m nR RR q d g W) (h4 : d 4 = false) (h0 : d 0 = true) (h3 : d 3 = true) (hv : RatV W u RR) : PdJ w wr S A m nR RR q (mark d 4) (upd g 4 (.tuple #[u, .int .i64 0])) W :=
 have h5 := h.n5 h4
 ⟨h.bl, h.v0, h.v1, h.v2, fun _ k => Bool.noConfusion (show true = false from k), fun _ => ⟨u, rfl, fun _ => hv, fun k => absurd (k.symm.trans h5) (by decide), fun k => absurd (k.symm.trans (h.n6 h5)) (by decide)⟩, fun _ => ⟨h0, h3⟩, fun _ => rfl, h.e6, h.e8, h.fin⟩
theorem PdJ.s5 (h : PdJ w wr S A m nR RR q d g W) (h4 : d 4 = true) : PdJ w wr S A m nR RR q (mark d 5) (upd g 5 (g 4)) W :=
 ⟨h.bl, h.v0, h.v1, h.v2, h.v3, fun k => let ⟨u, q1, q2, q3, q4⟩ := h.v4 k; ⟨u, q1, q2, fun _ => q1, q4⟩, h.e4, fun _ => h4, fun _ => rfl, h.e8, h.fin⟩
theorem PdJ.s6 {u : Value} (h : PdJ w wr S A m nR RR q d g W) (h5 : d 5 = true) (hu : g 4 = .tuple #[u, .int .i64 0]) : PdJ w wr S A m nR RR q (mark d 6) (upd g 6 u) W :=
 ⟨h.bl, h.v0, h.v1, h.v2, h.v3, fun k => let ⟨u', q1, q2, q3, q4⟩ := h.v4 k; ⟨u', q1, q2, q3, fun _ => by
  have e := hu.symm.trans q1
  simp only [Value.tuple.injEq] at e
  have := congrArg (fun a => a[0]?) e
  simpa [upd] using this⟩, h.e4, h.e5, fun _ => h5, fun _ => rfl, h.fin⟩
theorem PdJ.s7 {v : Value} (h : PdJ w wr S A m nR RR q d g W) : PdJ w wr S A m nR RR q (mark d 7) (upd g 7 v) W := ⟨h.bl, h.v0, h.v1, h.v2, h.v3, h.v4, h.e4, h.e5, h.e6, h.e8, h.fin⟩
theorem PdJ.s8 {v : Value} {W' : World} (h : PdJ w wr S A m nR RR q d g W) (h6 : d 6 = true) (hf : PoI w W' q) : PdJ w wr S A m nR RR q (mark d 8) (upd g 8 v) W' :=
 have h4 := h.e5 (h.e6 h6)
 ⟨fun k => Bool.noConfusion (show true = false from k), h.v0, h.v1, h.v2, fun _ k => absurd (h4.symm.trans k) (by decide), fun k => let ⟨u, q1, q2, q3⟩ := h.v4 k; ⟨u, q1, fun k8 => Bool.noConfusion (show true = false from k8), q3⟩, h.e4, h.e5, h.e6, fun _ => h6, fun _ => hf⟩
end
theorem r14PoolM {w : World} {ai ax : Option Addr} {ix : List Int} {x : List Rat} {F : Nat -> Prop} (ci cx : Nat) (hI : Ints w F ai ix) (hX : RatsAt w ax (x.map ratL)) (h1 : 1 <= ix.length) (hb : ∀ i ∈ ix, 0 <= i /\ i < x.length)
  (hx1 : ∀ q ∈ x, RatLe (ratL q) 524285) (hs : ∀ k, k < ix.length -> RatLe (ratL (pmax (valsQ ix x) k)) 524286) :
  Calls Tryz.prog 79 #[.int .i64 3, .slice ai ix.length ci, .slice ax x.length cx] w (RetR w (ratL (maxL (valsQ ix x)))) := by
 have hxl := hX.len
 have hil := hI.len
 simp only [List.length_map] at hxl
 have HI0 := hid hI
 have HX := hid hX
 have Hx1 := hid hx1
 have Hs := hid hs
 have HIx : Hid (∀ k, k < ix.length -> ∃ n : Nat, ix[k]? = some (n : Int) /\ n < x.length) := fun k hk => by
  obtain ⟨g1, g2⟩ := hb _ (List.getElem_mem hk)
  exact ⟨ix[k].toNat, by rw [List.getElem?_eq_getElem hk]; congr 1; omega, by omega⟩
 have HEnd : Hid (RatL.mk (ratL (maxL (valsQ ix x))).neg (ratL (maxL (valsQ ix x))).num (ratL (maxL (valsQ ix x))).den = ratL (maxL (valsQ ix x))) := rfl
 have hRR : ∃ RR, RR = ratL (maxL (valsQ ix x)) := ⟨_, rfl⟩
 clear HEnd
 obtain ⟨RR, hRR⟩ := hRR
 rw [<- hRR]
 have HEnd := hid hRR
 clear hI hX hx1 hs hb hRR
 go_enter Tryz.func79, Tryz.ntmps79
 go_upto_region 1 with fail
 have hst := fun (W : World) (o : Obj) => (Below.refl W.heap.size W).alloc (Nat.le_refl _) o
 have HN := hid (RNil.alloc w 37)
 have HB0 := hid (hst w (zerO 37))
 have hsz0 : (w.alloc (zerO 37)).heap.size = w.heap.size + 1 := by simp
 generalize w.alloc (zerO 37) = W1 at *
 obtain ⟨n, hn, hnx⟩ := HIx.out 0 (by omega)
 obtain ⟨bi, oi, d, hae, ic, hd, _, hbi, _, hd1, hd2⟩ := HI0.out.pick2 (k := 0) (by omega)
 rw [hn] at hd
 cases hd
 obtain ⟨bx, ox, y, yn, yd, ycn, ycd, hxe, hbx, hyy, yc0, yc1, yc2, hyv⟩ := HX.out.pick (k := n) (by rw [List.length_map]; omega)
 obtain ⟨hy1, hy2⟩ := map_get hyy
 have hv0 : (valsQ ix x).getD 0 0 = x.getD n 0 := valsQ_at (by omega) (getD_of hn)
 obtain ⟨_, _, _, _, hye, y2, y3, y4, y5⟩ := hyv.ex
 cases hye
 have HBxE := hid (RBox.alloc y2 y3 (y4.below HB0.out) (y5.below HB0.out) 37)
 have hP0 : PoI w (W1.alloc (ratO y yn ycn yd ycd 37)) (pmax (valsQ ix x) 0) := by
  refine ⟨?_, HN.out.below (hst _ _), HB0.out.trans ((hst W1 _).mono HB0.out.size)⟩
  have h := HBxE.out
  rw [hsz0] at h
  rw [show pmax (valsQ ix x) 0 = (valsQ ix x).getD 0 0 from rfl, hv0, <- hy2]
  exact h
 have HP0 := hid hP0
 have e0 := (HB0.out.cell (p := ⟨bi, oi + 0, none⟩) hbi).trans ic
 have e1 := (HB0.out.cell (p := ⟨bx, ox + n * 3, none⟩) hbx).trans yc0
 have e2 := (HB0.out.cell (p := ⟨bx, ox + n * 3 + 1, none⟩) hbx).trans yc1
 have e3 := (HB0.out.cell (p := ⟨bx, ox + n * 3 + 2, none⟩) hbx).trans yc2
 rw [Nat.add_zero] at e0
 have HAe := hid hae
 have HXe := hid hxe
 have hpos : 0 < ix.length := by omega
 rw [HAe.out, HXe.out]
 clear hn hyy hy1 hy2 hv0 y4 y5 hyv hst HBxE hP0 ic yc0 yc1 yc2 hae hxe hbi hbx hd1 hd2
 go_upto_region 2 with fail
 rw [<- HAe.out, <- HXe.out]
 clear e0 e1 e2 e3
 generalize W1.alloc (ratO y yn ycn yd ycd 37) = W2 at *
 clear hsz0 HN HB0 HAe HXe
 go_wp2
 go_loopw [8] (fun i wr => ∃ k : Nat, 1 <= k /\ k <= ix.length /\ i = .int .i64 (k : Int) /\ Hid (PoI w wr (pmax (valsQ ix x) (k - 1)))) (fun i _ => ix.length - (intOf i).toNat)
 case atStart => exact ⟨1, Nat.le_refl _, h1, rfl, HP0.out⟩
 case round =>
  obtain ⟨k, hk1, hk, rfl, HI⟩ := hrel
  by_cases hlt : k < ix.length
  ·obtain ⟨n, hn, hnx⟩ := HIx.out k hlt
   obtain ⟨bi, oi, d, rfl, ic, hd, _, hbi, _, hd1, hd2⟩ := HI0.out.pick2 hlt
   rw [hn] at hd
   cases hd
   obtain ⟨bx, ox, y, yn, yd, ycn, ycd, rfl, hbx, hyy, yc0, yc1, yc2, hyv⟩ := HX.out.pick (k := n) (by rw [List.length_map]; omega)
   obtain ⟨hy1, hy2⟩ := map_get hyy
   have hvk : (valsQ ix x).getD k 0 = x.getD n 0 := valsQ_at hlt (getD_of hn)
   obtain ⟨s, hs⟩ : ∃ s, s = ratL (pmax (valsQ ix x) (k - 1)) := ⟨_, rfl⟩
   obtain ⟨s1, hs1⟩ : ∃ s1, s1 = ratL (pmax (valsQ ix x) k) := ⟨_, rfl⟩
   have hq : ratL (maxQ (ratOf s) (ratOf y)) = s1 := by
    rw [hs, hs1, ratOf_ratL, hy1, <- hvk]
    obtain ⟨j, rfl⟩ : ∃ j, k = j + 1 := ⟨k - 1, by omega⟩
    rfl
   have hmex : x.getD n 0 ∈ x := by
    rw [List.getD_eq_getElem?_getD, List.getElem?_eq_getElem (by omega)]; exact List.getElem_mem _
   obtain ⟨sn, sd, scn, scd, hbxs, s2, s3, s4, s5⟩ := (show RBox wr (w.heap.size + 1) s from by rw [hs]; exact HI.out.box).ex
   have HCl : Hid (∀ W, Below wr.heap.size wr W -> Calls Tryz.prog 33 #[.agg #[.bool s.neg, .slice sn s.num.length scn, .slice sd s.den.length scd], .agg #[.bool y.neg, .slice yn y.num.length ycn, .slice yd y.den.length ycd]] W (RetR W s1)) := fun W hb => by
    have hbw2 := HI.out.bl.trans (hb.mono HI.out.bl.size)
    have h := r3Max (x := s) (y := y) ⟨sn, sd, scn, scd, rfl, s2, s3, s4.below hb, s5.below hb⟩ (hyv.below hbw2) (by rw [hs]; exact Hs.out (k - 1) (by omega)) (by rw [hy2]; exact (Hx1.out _ hmex).mono (by omega))
    rw [hq] at h
    exact h
   have HCe : Hid (∀ W, Below wr.heap.size wr W -> W.cell? ⟨w.heap.size + 1, 0, none⟩ = some (.bool s.neg) /\ W.cell? ⟨w.heap.size + 1, 1, none⟩ = some (.slice sn s.num.length scn) /\ W.cell? ⟨w.heap.size + 1, 2, none⟩ = some (.slice sd s.den.length scd) /\
     W.cell? ⟨bi, oi + k, none⟩ = some (.int .i64 (n : Int)) /\
     W.cell? ⟨bx, ox + n * 3, none⟩ = some (.bool y.neg) /\ W.cell? ⟨bx, ox + n * 3 + 1, none⟩ = some (.slice yn y.num.length ycn) /\ W.cell? ⟨bx, ox + n * 3 + 2, none⟩ = some (.slice yd y.den.length ycd)) := fun W hb => by
    have hbw2 := HI.out.bl.trans (hb.mono HI.out.bl.size)
    exact ⟨(hb.cell hbxs.lt).trans hbxs.c0, (hb.cell hbxs.lt).trans hbxs.c1, (hb.cell hbxs.lt).trans hbxs.c2, (hbw2.cell hbi).trans ic, (hbw2.cell hbx).trans yc0, (hbw2.cell hbx).trans yc1, (hbw2.cell hbx).trans yc2⟩
   have HS1 : Hid (ratL (pmax (valsQ ix x) k) = s1) := hs1.symm
   clear hn hyy hy1 hy2 hs hs1 hq hmex hbxs s4 s5 hyv yc0 yc1 yc2 ic hvk
   go_upto_region 6 with fail
   refine wp_region_slots_tail 9 (by kernel_rfl) (by kernel_rfl) (by kernel_rfl) (by kernel_rfl) (by decide) (From wr.heap.size wr) (fun w w' => Below w.heap.size w w') (GR [.val (.agg #[.bool s.neg, .slice sn s.num.length scn, .slice sd s.den.length scd]), .val (.slice (some ⟨bx, ox, none⟩) x.length cx), .val (.slice (some ⟨bi, oi, none⟩) ix.length ci), .val (.int .i64 (k : Int)), .val (.pointer (some ⟨bi, oi + k, none⟩)), .val (.int .i64 (n : Int)), .val (.pointer (some ⟨bx, ox + n * 3, none⟩)), .val (.agg #[.bool y.neg, .slice yn y.num.length ycn, .slice yd y.den.length ycd]), .rat s1]) (fun i v w w' h hb => GR_below h hb) (From.start (Nat.le_refl _)) ?_ ?_
   ·intro ops
    simp only [List.take_succ_cons, List.take_zero, Shows]
    refine ⟨?_, ?_, ?_, ?_, ?_, ?_, ?_, ?_, ?_, trivial⟩
    all_goals (intro g W hR hL; have hB := hR.base; obtain ⟨x0, x1, x2, ic0, yc0, yc1, yc2⟩ := HCe.out W hR.be; simp only [Laid, Region.binds, forall_const, Bool.false_eq_true, false_implies, GR, List.getElem?_cons_zero, List.getElem?_cons_succ] at hL; simp [fillFrom, Act.put])
    ·clear hL
     have HR := hid hR
     clear hR
     go_wp2
     exact ⟨_, rfl, HR.out, Below.refl _ _, rfl⟩
    ·clear hL
     have HR := hid hR
     clear hR
     go_wp2
     exact ⟨_, rfl, HR.out, Below.refl _ _, rfl⟩
    ·clear hL
     have HR := hid hR
     clear hR
     go_wp2
     exact ⟨_, rfl, HR.out, Below.refl _ _, rfl⟩
    ·clear hL
     have HR := hid hR
     clear hR
     go_wp2
     exact ⟨_, rfl, HR.out, Below.refl _ _, rfl⟩
    ·generalize g 2 = y2 at hL ⊢
     generalize g 3 = y3 at hL ⊢
     obtain ⟨rfl, rfl, _⟩ := hL
     have HR := hid hR
     clear hR
     go_wp2
     exact ⟨_, rfl, HR.out, Below.refl _ _, rfl⟩
    ·generalize g 4 = y4 at hL ⊢
     obtain ⟨rfl, _⟩ := hL
     have HR := hid hR
     clear hR
     go_wp2
     exact ⟨_, rfl, HR.out, Below.refl _ _, rfl⟩
    ·generalize g 1 = y1 at hL ⊢
     generalize g 5 = y5 at hL ⊢
     obtain ⟨rfl, rfl, _⟩ := hL
     have HR := hid hR
     clear hR
     go_wp2
     exact ⟨_, rfl, HR.out, Below.refl _ _, rfl⟩
    ·generalize g 6 = y6 at hL ⊢
     obtain ⟨rfl, _⟩ := hL
     have HR := hid hR
     clear hR
     go_wp2
     exact ⟨_, rfl, HR.out, Below.refl _ _, rfl⟩
    ·generalize g 0 = y0 at hL ⊢
     generalize g 7 = y7 at hL ⊢
     obtain ⟨rfl, rfl, _⟩ := hL
     have HR := hid hR
     clear hR
     have HCt := hid (HCl.out W HR.out.be)
     go_wp2_with fail
     refine HCt.out.mono ?_
     rintro e w1 ⟨v1, rfl, kv, kb⟩
     have KV := hid kv
     have KB := hid kb
     clear kv kb HCt
     go_wp2
     exact ⟨_, rfl, ⟨Nat.le_trans HR.out.base KB.out.size, HR.out.be.trans (KB.out.mono HR.out.base)⟩, KB.out, KV.out⟩
   ·intro ops g W hR hL
    have hB := hR.base
    have J8 := hL.2
    simp only [GR, List.getElem?_cons_zero, List.getElem?_cons_succ] at J8
    obtain ⟨x0, x1, x2, ic0, yc0, yc1, yc2⟩ := HCe.out W hR.be
    clear hL
    simp only [List.take_succ_cons, List.take_zero, List.drop_succ_cons, List.drop_zero]
    simp [fillFrom, Act.put]
    generalize g 8 = y8 at J8 ⊢
    have HR := hid hR
    clear hR
    obtain ⟨bn', bd', dn', dd', rfl, g2, g3, g4, g5⟩ := J8.ex
    have HBe := hid (show Below wr.heap.size wr W from HR.out.be)
    have HBx := hid (HI.out.box.below HBe.out)
    obtain ⟨_, _, _, _, ⟨_, _, _, zf, zlt⟩, _⟩ := HBx.out.ex
    have HStep := hid (HI.out.step HBe.out (q' := pmax (valsQ ix x) k) HS1.out g2 g3 g4 g5)
    clear g4 g5 J8
    go_wp2
    go_roundw
    case rel => exact ⟨k + 1, by omega, hlt, by go_num, HStep.out⟩
    case measure => simp [intOf]; omega
  ·obtain rfl : k = ix.length := by omega
   have HOut : Hid (∀ Q, PoI w wr Q -> RBox wr (w.heap.size + 1) (ratL Q)) := fun Q h => h.box
   have hbx : RBox wr (w.heap.size + 1) RR := by rw [HEnd.out, maxL, valsQ_len]; exact HI.out.box
   obtain ⟨sn, sd, scn, scd, ⟨x0, x1, x2, _, xlt⟩, s2, s3, s4, s5⟩ := hbx.ex
   obtain ⟨hS, hV⟩ := HI.out.res.put s2 s3 s4 s5
   have HS := hid hS
   have HV := hid hV
   have HBl := hid (below_store3 HI.out.bl (Nat.le_refl _) (.bool RR.neg) (.slice sn RR.num.length scn) (.slice sd RR.den.length scd))
   obtain ⟨y0, y1, y2, yf, ylt⟩ := HI.out.res.c
   clear hbx hS hV s4 s5
   go_wp2
   obtain ⟨z0, z1, z2, zf, zlt⟩ := HS.out
   have hNP : RetR w RR (.returned (.agg #[.bool RR.neg, .slice sn RR.num.length scn, .slice sd RR.den.length scd])) (((wr.setCell ⟨w.heap.size, 0, none⟩ (.bool RR.neg)).setCell ⟨w.heap.size, 1, none⟩ (.slice sn RR.num.length scn)).setCell ⟨w.heap.size, 2, none⟩ (.slice sd RR.den.length scd)) := ⟨_, rfl, HV.out, HBl.out⟩
   generalize ((wr.setCell ⟨w.heap.size, 0, none⟩ (.bool RR.neg)).setCell ⟨w.heap.size, 1, none⟩ (.slice sn RR.num.length scn)).setCell ⟨w.heap.size, 2, none⟩ (.slice sd RR.den.length scd) = Y at *
   exact bodyPost_ret (v := .agg #[.bool RR.neg, .slice sn RR.num.length scn, .slice sd RR.den.length scd]) (by simp [results, Tryz.results79, go_sem, z0, z1, z2]) rfl hNP
theorem r14PoolA {w : World} {ai ax : Option Addr} {ix : List Int} {x : List Rat} {F : Nat -> Prop} (ci cx : Nat) (hI : Ints w F ai ix) (hX : RatsAt w ax (x.map ratL)) (h1 : 1 <= ix.length) (hb : ∀ i ∈ ix, 0 <= i /\ i < x.length)
  (hx1 : ∀ q ∈ x, RatLe (ratL q) 524285) (hs : ∀ k, k < ix.length -> RatLe (ratL (padd (valsQ ix x) k)) 524286) :
  Calls Tryz.prog 79 #[.int .i64 4, .slice ai ix.length ci, .slice ax x.length cx] w (RetR w (ratL (avgL (valsQ ix x)))) := by
 have hxl := hX.len
 have hil := hI.len
 simp only [List.length_map] at hxl
 have HI0 := hid hI
 have HX := hid hX
 have Hx1 := hid hx1
 have Hs := hid hs
 have HIx : Hid (∀ k, k < ix.length -> ∃ n : Nat, ix[k]? = some (n : Int) /\ n < x.length) := fun k hk => by
  obtain ⟨g1, g2⟩ := hb _ (List.getElem_mem hk)
  exact ⟨ix[k].toNat, by rw [List.getElem?_eq_getElem hk]; congr 1; omega, by omega⟩
 have HEnd : Hid (RatL.mk (ratL (avgL (valsQ ix x))).neg (ratL (avgL (valsQ ix x))).num (ratL (avgL (valsQ ix x))).den = ratL (avgL (valsQ ix x))) := rfl
 have hRR : ∃ RR, RR = ratL (avgL (valsQ ix x)) := ⟨_, rfl⟩
 clear HEnd
 obtain ⟨RR, hRR⟩ := hRR
 rw [<- hRR]
 have HEnd := hid hRR
 clear hI hX hx1 hs hb hRR
 go_enter Tryz.func79, Tryz.ntmps79
 go_upto_region 1 with fail
 have hst := fun (W : World) (o : Obj) => (Below.refl W.heap.size W).alloc (Nat.le_refl _) o
 have HN := hid (RNil.alloc w 37)
 have HB0 := hid (hst w (zerO 37))
 have hsz0 : (w.alloc (zerO 37)).heap.size = w.heap.size + 1 := by simp
 generalize w.alloc (zerO 37) = W1 at *
 obtain ⟨n, hn, hnx⟩ := HIx.out 0 (by omega)
 obtain ⟨bi, oi, d, hae, ic, hd, _, hbi, _, hd1, hd2⟩ := HI0.out.pick2 (k := 0) (by omega)
 rw [hn] at hd
 cases hd
 obtain ⟨bx, ox, y, yn, yd, ycn, ycd, hxe, hbx, hyy, yc0, yc1, yc2, hyv⟩ := HX.out.pick (k := n) (by rw [List.length_map]; omega)
 obtain ⟨hy1, hy2⟩ := map_get hyy
 have hv0 : (valsQ ix x).getD 0 0 = x.getD n 0 := valsQ_at (by omega) (getD_of hn)
 obtain ⟨_, _, _, _, hye, y2, y3, y4, y5⟩ := hyv.ex
 cases hye
 have HBxE := hid (RBox.alloc y2 y3 (y4.below HB0.out) (y5.below HB0.out) 37)
 have hP0 : PoI w (W1.alloc (ratO y yn ycn yd ycd 37)) (padd (valsQ ix x) 0) := by
  refine ⟨?_, HN.out.below (hst _ _), HB0.out.trans ((hst W1 _).mono HB0.out.size)⟩
  have h := HBxE.out
  rw [hsz0] at h
  rw [show padd (valsQ ix x) 0 = (valsQ ix x).getD 0 0 from rfl, hv0, <- hy2]
  exact h
 have HP0 := hid hP0
 have e0 := (HB0.out.cell (p := ⟨bi, oi + 0, none⟩) hbi).trans ic
 have e1 := (HB0.out.cell (p := ⟨bx, ox + n * 3, none⟩) hbx).trans yc0
 have e2 := (HB0.out.cell (p := ⟨bx, ox + n * 3 + 1, none⟩) hbx).trans yc1
 have e3 := (HB0.out.cell (p := ⟨bx, ox + n * 3 + 2, none⟩) hbx).trans yc2
 rw [Nat.add_zero] at e0
 have HAe := hid hae
 have HXe := hid hxe
 have hpos : 0 < ix.length := by omega
 rw [HAe.out, HXe.out]
 clear hn hyy hy1 hy2 hv0 y4 y5 hyv hst HBxE hP0 ic yc0 yc1 yc2 hae hxe hbi hbx hd1 hd2
 go_upto_region 2 with fail
 rw [<- HAe.out, <- HXe.out]
 clear e0 e1 e2 e3
 generalize W1.alloc (ratO y yn ycn yd ycd 37) = W2 at *
 clear hsz0 HN HB0 HAe HXe
 go_wp2
 go_loopw [8] (fun i wr => ∃ k : Nat, 1 <= k /\ k <= ix.length /\ i = .int .i64 (k : Int) /\ Hid (PoI w wr (padd (valsQ ix x) (k - 1)))) (fun i _ => ix.length - (intOf i).toNat)
 case atStart => exact ⟨1, Nat.le_refl _, h1, rfl, HP0.out⟩
 case round =>
  obtain ⟨k, hk1, hk, rfl, HI⟩ := hrel
  by_cases hlt : k < ix.length
  ·obtain ⟨n, hn, hnx⟩ := HIx.out k hlt
   obtain ⟨bi, oi, d, rfl, ic, hd, _, hbi, _, hd1, hd2⟩ := HI0.out.pick2 hlt
   rw [hn] at hd
   cases hd
   obtain ⟨bx, ox, y, yn, yd, ycn, ycd, rfl, hbx, hyy, yc0, yc1, yc2, hyv⟩ := HX.out.pick (k := n) (by rw [List.length_map]; omega)
   obtain ⟨hy1, hy2⟩ := map_get hyy
   have hvk : (valsQ ix x).getD k 0 = x.getD n 0 := valsQ_at hlt (getD_of hn)
   obtain ⟨s, hs⟩ : ∃ s, s = ratL (padd (valsQ ix x) (k - 1)) := ⟨_, rfl⟩
   obtain ⟨s1, hs1⟩ : ∃ s1, s1 = ratL (padd (valsQ ix x) k) := ⟨_, rfl⟩
   have hq : ratL (ratOf s + ratOf y) = s1 := by
    rw [hs, hs1, ratOf_ratL, hy1, <- hvk]
    obtain ⟨j, rfl⟩ : ∃ j, k = j + 1 := ⟨k - 1, by omega⟩
    rfl
   have hmex : x.getD n 0 ∈ x := by
    rw [List.getD_eq_getElem?_getD, List.getElem?_eq_getElem (by omega)]; exact List.getElem_mem _
   obtain ⟨sn, sd, scn, scd, hbxs, s2, s3, s4, s5⟩ := (show RBox wr (w.heap.size + 1) s from by rw [hs]; exact HI.out.box).ex
   have HCl : Hid (∀ W, Below wr.heap.size wr W -> Calls Tryz.prog 22 #[.agg #[.bool s.neg, .slice sn s.num.length scn, .slice sd s.den.length scd], .agg #[.bool y.neg, .slice yn y.num.length ycn, .slice yd y.den.length ycd]] W (RetR W s1)) := fun W hb => by
    have hbw2 := HI.out.bl.trans (hb.mono HI.out.bl.size)
    have h := r3Add (x := s) (y := y) ⟨sn, sd, scn, scd, rfl, s2, s3, s4.below hb, s5.below hb⟩ (hyv.below hbw2) (by rw [hs]; exact Hs.out (k - 1) (by omega)) (by rw [hy2]; exact (Hx1.out _ hmex).mono (by omega))
    rw [hq] at h
    exact h
   have HCe : Hid (∀ W, Below wr.heap.size wr W -> W.cell? ⟨w.heap.size + 1, 0, none⟩ = some (.bool s.neg) /\ W.cell? ⟨w.heap.size + 1, 1, none⟩ = some (.slice sn s.num.length scn) /\ W.cell? ⟨w.heap.size + 1, 2, none⟩ = some (.slice sd s.den.length scd) /\
     W.cell? ⟨bi, oi + k, none⟩ = some (.int .i64 (n : Int)) /\
     W.cell? ⟨bx, ox + n * 3, none⟩ = some (.bool y.neg) /\ W.cell? ⟨bx, ox + n * 3 + 1, none⟩ = some (.slice yn y.num.length ycn) /\ W.cell? ⟨bx, ox + n * 3 + 2, none⟩ = some (.slice yd y.den.length ycd)) := fun W hb => by
    have hbw2 := HI.out.bl.trans (hb.mono HI.out.bl.size)
    exact ⟨(hb.cell hbxs.lt).trans hbxs.c0, (hb.cell hbxs.lt).trans hbxs.c1, (hb.cell hbxs.lt).trans hbxs.c2, (hbw2.cell hbi).trans ic, (hbw2.cell hbx).trans yc0, (hbw2.cell hbx).trans yc1, (hbw2.cell hbx).trans yc2⟩
   have HS1 : Hid (ratL (padd (valsQ ix x) k) = s1) := hs1.symm
   clear hn hyy hy1 hy2 hs hs1 hq hmex hbxs s4 s5 hyv yc0 yc1 yc2 ic hvk
   go_upto_region 7 with fail
   refine wp_region_slots_tail 9 (by kernel_rfl) (by kernel_rfl) (by kernel_rfl) (by kernel_rfl) (by decide) (From wr.heap.size wr) (fun w w' => Below w.heap.size w w') (GR [.val (.agg #[.bool s.neg, .slice sn s.num.length scn, .slice sd s.den.length scd]), .val (.slice (some ⟨bx, ox, none⟩) x.length cx), .val (.slice (some ⟨bi, oi, none⟩) ix.length ci), .val (.int .i64 (k : Int)), .val (.pointer (some ⟨bi, oi + k, none⟩)), .val (.int .i64 (n : Int)), .val (.pointer (some ⟨bx, ox + n * 3, none⟩)), .val (.agg #[.bool y.neg, .slice yn y.num.length ycn, .slice yd y.den.length ycd]), .rat s1]) (fun i v w w' h hb => GR_below h hb) (From.start (Nat.le_refl _)) ?_ ?_
   ·intro ops
    simp only [List.take_succ_cons, List.take_zero, Shows]
    refine ⟨?_, ?_, ?_, ?_, ?_, ?_, ?_, ?_, ?_, trivial⟩
    all_goals (intro g W hR hL; have hB := hR.base; obtain ⟨x0, x1, x2, ic0, yc0, yc1, yc2⟩ := HCe.out W hR.be; simp only [Laid, Region.binds, forall_const, Bool.false_eq_true, false_implies, GR, List.getElem?_cons_zero, List.getElem?_cons_succ] at hL; simp [fillFrom, Act.put])
    ·clear hL
     have HR := hid hR
     clear hR
     go_wp2
     exact ⟨_, rfl, HR.out, Below.refl _ _, rfl⟩
    ·clear hL
     have HR := hid hR
     clear hR
     go_wp2
     exact ⟨_, rfl, HR.out, Below.refl _ _, rfl⟩
    ·clear hL
     have HR := hid hR
     clear hR
     go_wp2
     exact ⟨_, rfl, HR.out, Below.refl _ _, rfl⟩
    ·clear hL
     have HR := hid hR
     clear hR
     go_wp2
     exact ⟨_, rfl, HR.out, Below.refl _ _, rfl⟩
    ·generalize g 2 = y2 at hL ⊢
     generalize g 3 = y3 at hL ⊢
     obtain ⟨rfl, rfl, _⟩ := hL
     have HR := hid hR
     clear hR
     go_wp2
     exact ⟨_, rfl, HR.out, Below.refl _ _, rfl⟩
    ·generalize g 4 = y4 at hL ⊢
     obtain ⟨rfl, _⟩ := hL
     have HR := hid hR
     clear hR
     go_wp2
     exact ⟨_, rfl, HR.out, Below.refl _ _, rfl⟩
    ·generalize g 1 = y1 at hL ⊢
     generalize g 5 = y5 at hL ⊢
     obtain ⟨rfl, rfl, _⟩ := hL
     have HR := hid hR
     clear hR
     go_wp2
     exact ⟨_, rfl, HR.out, Below.refl _ _, rfl⟩
    ·generalize g 6 = y6 at hL ⊢
     obtain ⟨rfl, _⟩ := hL
     have HR := hid hR
     clear hR
     go_wp2
     exact ⟨_, rfl, HR.out, Below.refl _ _, rfl⟩
    ·generalize g 0 = y0 at hL ⊢
     generalize g 7 = y7 at hL ⊢
     obtain ⟨rfl, rfl, _⟩ := hL
     have HR := hid hR
     clear hR
     have HCt := hid (HCl.out W HR.out.be)
     go_wp2_with fail
     refine HCt.out.mono ?_
     rintro e w1 ⟨v1, rfl, kv, kb⟩
     have KV := hid kv
     have KB := hid kb
     clear kv kb HCt
     go_wp2
     exact ⟨_, rfl, ⟨Nat.le_trans HR.out.base KB.out.size, HR.out.be.trans (KB.out.mono HR.out.base)⟩, KB.out, KV.out⟩
   ·intro ops g W hR hL
    have hB := hR.base
    have J8 := hL.2
    simp only [GR, List.getElem?_cons_zero, List.getElem?_cons_succ] at J8
    obtain ⟨x0, x1, x2, ic0, yc0, yc1, yc2⟩ := HCe.out W hR.be
    clear hL
    simp only [List.take_succ_cons, List.take_zero, List.drop_succ_cons, List.drop_zero]
    simp [fillFrom, Act.put]
    generalize g 8 = y8 at J8 ⊢
    have HR := hid hR
    clear hR
    obtain ⟨bn', bd', dn', dd', rfl, g2, g3, g4, g5⟩ := J8.ex
    have HBe := hid (show Below wr.heap.size wr W from HR.out.be)
    have HBx := hid (HI.out.box.below HBe.out)
    obtain ⟨_, _, _, _, ⟨_, _, _, zf, zlt⟩, _⟩ := HBx.out.ex
    have HStep := hid (HI.out.step HBe.out (q' := padd (valsQ ix x) k) HS1.out g2 g3 g4 g5)
    clear g4 g5 J8
    go_wp2
    go_roundw
    case rel => exact ⟨k + 1, by omega, hlt, by go_num, HStep.out⟩
    case measure => simp [intOf]; omega
  ·obtain rfl : k = ix.length := by omega
   obtain ⟨s, hs⟩ : ∃ s, s = ratL (padd (valsQ ix x) (ix.length - 1)) := ⟨_, rfl⟩
   obtain ⟨nR, hnR⟩ : ∃ nR, nR = ratL (((ix.length : Int) : Rat)) := ⟨_, rfl⟩
   have hne : ratOf nR ≠ 0 := by
    rw [hnR, ratOf_ratL, <- Rat.intCast_zero]
    intro h
    rw [Rat.intCast_inj] at h
    omega
   have hq : ratL (ratOf s / ratOf nR) = RR := by
    rw [hs, hnR, ratOf_ratL, ratOf_ratL, HEnd.out, avgL, valsQ_len]
   have hnl : RatLe nR 1048575 := by
    rw [hnR, ratL_int]
    exact ⟨Nat.le_trans (limbs_len64 (by rw [Int.natAbs_natCast]; omega)) (by omega), by simp⟩
   obtain ⟨sn, sd, scn, scd, hbxs, s2, s3, s4, s5⟩ := (show RBox wr (w.heap.size + 1) s from by rw [hs]; exact HI.out.box).ex
   have HOf : Hid (∀ W, Calls Tryz.prog 35 #[.int .i64 (ix.length : Int)] W (RetR W nR)) := fun W => by rw [hnR]; exact r3Of W _ (by omega) (by omega)
   have HDv : Hid (∀ W, Below wr.heap.size wr W -> ∀ v, RatV W v nR -> Calls Tryz.prog 34 #[.agg #[.bool s.neg, .slice sn s.num.length scn, .slice sd s.den.length scd], v] W (RetTD W RR)) := fun W hb v hv => by
    have h := r3Div (x := s) (y := nR) ⟨sn, sd, scn, scd, rfl, s2, s3, s4.below hb, s5.below hb⟩ hv (by rw [hs]; exact (Hs.out (ix.length - 1) (by omega)).mono (by omega)) hnl hne
    rw [hq] at h
    exact h
   have HCe : Hid (∀ W, Below wr.heap.size wr W -> W.cell? ⟨w.heap.size + 1, 0, none⟩ = some (.bool s.neg) /\ W.cell? ⟨w.heap.size + 1, 1, none⟩ = some (.slice sn s.num.length scn) /\ W.cell? ⟨w.heap.size + 1, 2, none⟩ = some (.slice sd s.den.length scd)) := fun W hb =>
    ⟨(hb.cell hbxs.lt).trans hbxs.c0, (hb.cell hbxs.lt).trans hbxs.c1, (hb.cell hbxs.lt).trans hbxs.c2⟩
   clear hs hnR hne hq hnl hbxs s4 s5
   go_upto_if 42 with fail
   go_cut [8] (fun s8 wx => PoI w wx (avgL (valsQ ix x)))
   case first =>
    go_upto_region 9 with fail
    refine wp_region_slots_all (by kernel_rfl) (by kernel_rfl) (by kernel_rfl) (PdJ w wr (.agg #[.bool s.neg, .slice sn s.num.length scn, .slice sd s.den.length scd]) (.slice ai ix.length ci) ix.length nR RR (avgL (valsQ ix x))) (fun g => PdJ.start (Below.refl _ _).drew g) ?_ ?_
    ·intro ops
     simp only [ShowsJ]
     refine ⟨?_, ?_, ?_, ?_, ?_, ?_, ?_, ?_, ?_, trivial⟩
     all_goals (intro d g wc hJ hd hW; simp only [Waits, Region.binds, forall_const, Bool.false_eq_true, false_implies, and_true, true_and] at hW; simp [fillFrom, Act.put]; have HJ := hid hJ)
     ·have h8 := hJ.n8 (hJ.n6 (hJ.n5 (hJ.n4 (.inr hd))))
      obtain ⟨x0, x1, x2⟩ := HCe.out wc (hJ.bl h8)
      clear hJ
      go_wp2
      exact ⟨_, rfl, HJ.out.s0⟩
     ·clear hJ
      go_wp2
      exact ⟨_, rfl, HJ.out.s1⟩
     ·generalize hg1 : g 1 = y1
      obtain rfl := hg1.symm.trans (hJ.v1 hW)
      clear hJ
      go_wp2
      exact ⟨_, rfl, HJ.out.s2⟩
     ·have h8 := hJ.n8 (hJ.n6 (hJ.n5 (hJ.n4 (.inl hd))))
      generalize hg2 : g 2 = y2
      obtain rfl := hg2.symm.trans (hJ.v2 hW)
      have H8 := hid h8
      clear hJ h8 hd
      go_wp2_with fail
      refine (HOf.out _).mono ?_
      rintro e w3 ⟨v3, rfl, k3, hb3⟩
      have HJ1 := hid ((HJ.out.grow H8.out hb3).s3 k3)
      clear k3 hb3 HJ
      go_wp2
      exact ⟨_, rfl, HJ1.out⟩
     ·have h8 := hJ.n8 (hJ.n6 (hJ.n5 hd))
      have HT := hid (hJ.v3 hW.2.1 hd)
      have HD4 := hid hd
      have HW0 := hid hW.1
      have HW3 := hid hW.2.1
      generalize hg0 : g 0 = y0
      obtain rfl := hg0.symm.trans (hJ.v0 hW.1)
      have HC := hid (HDv.out wc (hJ.bl h8) _ HT.out)
      have H8 := hid h8
      clear hJ hd h8 hW
      go_wp2_with fail
      refine HC.out.mono ?_
      rintro e w3 ⟨v3, rfl, k3, hb3⟩
      have HJ1 := hid ((HJ.out.grow H8.out hb3).s4 HD4.out HW0.out HW3.out k3)
      clear k3 hb3 HJ HC
      go_wp2
      exact ⟨_, rfl, HJ1.out⟩
     ·have HJ1 := hid (hJ.s5 hW)
      clear hJ
      go_wp2
      exact ⟨_, rfl, HJ1.out⟩
     ·obtain ⟨u, q1, _, q3, _⟩ := hJ.v4 (hJ.e5 hW)
      have HJ1 := hid (hJ.s6 hW q1)
      generalize hg5 : g 5 = y5
      obtain rfl := hg5.symm.trans (q3 hW)
      clear hJ q1 q3
      go_wp2
      exact ⟨_, rfl, HJ1.out⟩
     ·have hW := hW.1
      obtain ⟨u, q1, _, q3, _⟩ := hJ.v4 (hJ.e5 hW)
      generalize hg5 : g 5 = y5
      obtain rfl := hg5.symm.trans (q3 hW)
      clear hJ q1 q3
      go_wp2
      exact ⟨_, rfl, HJ.out.s7⟩
     ·have h6 : d 6 = true := hW.1
      obtain ⟨u, _, q2, _, q4⟩ := hJ.v4 (hJ.e5 (hJ.e6 h6))
      have hb := hJ.bl hd
      obtain ⟨bn', bd', dn', dd', rfl, g2, g3, g4, g5⟩ := (q2 hd).ex
      have HStep := HI.out.step hb (q' := avgL (valsQ ix x)) HEnd.out.symm g2 g3 g4 g5
      have HJ1 := hid (fun v => hJ.s8 (v := v) h6 HStep)
      obtain ⟨_, _, _, _, ⟨z0, z1, z2, zf, zlt⟩, _⟩ := (HI.out.box.below hb).ex
      generalize hg6 : g 6 = y6
      obtain rfl := hg6.symm.trans (q4 h6)
      clear hJ q2 q4 g4 g5 hb HStep
      go_wp2
      exact ⟨trivial, _, HJ1.out (.bool false)⟩
    ·intro d g W hA hJ
     have HF := hid (hJ.fin (hA 8 (by decide)))
     clear hJ hA
     simp [fillFrom, Act.put]
     go_wp2
     go_meet
     exact HF.out
   case rest =>
    have HI9 := hid hcut
    have hbx : RBox wc (w.heap.size + 1) RR := by rw [HEnd.out]; exact HI9.out.box
    obtain ⟨tn, td, tcn, tcd, ⟨x0, x1, x2, _, xlt⟩, t2, t3, t4, t5⟩ := hbx.ex
    obtain ⟨hS, hV⟩ := HI9.out.res.put t2 t3 t4 t5
    have HS := hid hS
    have HV := hid hV
    have HBl := hid (below_store3 HI9.out.bl (Nat.le_refl _) (.bool RR.neg) (.slice tn RR.num.length tcn) (.slice td RR.den.length tcd))
    obtain ⟨y0, y1, y2, yf, ylt⟩ := HI9.out.res.c
    clear hbx hS hV t4 t5 hcut
    go_wp2
    obtain ⟨z0, z1, z2, zf, zlt⟩ := HS.out
    have hNP : RetR w RR (.returned (.agg #[.bool RR.neg, .slice tn RR.num.length tcn, .slice td RR.den.length tcd])) (((wc.setCell ⟨w.heap.size, 0, none⟩ (.bool RR.neg)).setCell ⟨w.heap.size, 1, none⟩ (.slice tn RR.num.length tcn)).setCell ⟨w.heap.size, 2, none⟩ (.slice td RR.den.length tcd)) := ⟨_, rfl, HV.out, HBl.out⟩
    generalize ((wc.setCell ⟨w.heap.size, 0, none⟩ (.bool RR.neg)).setCell ⟨w.heap.size, 1, none⟩ (.slice tn RR.num.length tcn)).setCell ⟨w.heap.size, 2, none⟩ (.slice td RR.den.length tcd) = Y at *
    exact bodyPost_ret (v := .agg #[.bool RR.neg, .slice tn RR.num.length tcn, .slice td RR.den.length tcd]) (by simp [results, Tryz.results79, go_sem, z0, z1, z2]) rfl hNP
end Go.Proofs.YtoppijdedkdjeaaGreat
