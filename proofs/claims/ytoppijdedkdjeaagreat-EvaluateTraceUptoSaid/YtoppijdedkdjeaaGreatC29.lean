/-
  Contracts of the functions that the statement reaches: EvE, EvF.
-/
import Derived.Test.YtoppijdedkdjeaaGreatC28
set_option linter.unusedVariables false
set_option linter.unusedSimpArgs false
set_option linter.constructorNameAsVariable false
set_option linter.deprecated false
set_option maxRecDepth 100000
set_option maxHeartbeats 3200000
namespace Go.Proofs.YtoppijdedkdjeaaGreat
open Go.RowKit
open Go.Lib (hid)
theorem r14Conv {w : World} {fr st pd : Int} {O KH KW C ck n T : Nat} {a1 a2 ax aS af : Option Addr} {bs ws x : List Rat} {sh : List Int} {win : List (List Int)} {F : Nat -> Prop} (c1 c2 cx cS nf cf : Nat)
  (hW : RatsAt w a1 (ws.map ratL)) (hB : RatsAt w a2 (bs.map ratL)) (hX : RatsAt w ax (x.map ratL)) (hS : Ints w F aS sh) (hC : sh[0]? = some (C : Int)) (hck : ck = C * KH) (hn : n = ck * KW) (hck1 : ck <= 1000000) (hn1 : 1 <= n) (hn2 : n <= 1000000)
  (hwin : (windowsL sh KH KW st pd).1 = win) (hT : T = win.length) (hT2 : T <= 1000000) (hlen : ∀ ix ∈ win, ix.length = n) (hix : ∀ ix ∈ win, ∀ i ∈ ix, i < x.length)
  (hOb : O <= bs.length) (hwl : O * n <= ws.length) (hc1 : ws.length <= c1) (hO2 : O <= 1000000) (hOT : O * T <= 1000000)
  (hw1 : ∀ q ∈ ws, RatLe (ratL q) 1048575) (hx1 : ∀ q ∈ x, RatLe (ratL q) 1048575) (hp : ∀ p ∈ ws, ∀ q ∈ x, RatLe (ratL (p * q)) 524286)
  (hs : ∀ o, o < O -> ∀ ix ∈ win, ∀ k, k <= n -> RatLe (ratL (psum (bs.getD o 0) (partL ws (o * n) n) 0 ix x k)) 524286) :
  Calls Tryz.prog 39 #[layVal 2 fr O KH KW st pd a1 ws.length c1 a2 bs.length c2, .slice aS sh.length cS, .slice ax x.length cx, .slice af nf cf] w (RowRet w ((convQ O bs ws n win x).map ratL)) := by
 have hwl' := hW.len
 have hbl' := hB.len
 have hxl' := hX.len
 simp only [List.length_map] at hwl' hbl' hxl'
 have HW := hid hW
 have HBi := hid hB
 have HX := hid hX
 have Hw1 := hid hw1
 have Hx1 := hid hx1
 have Hp := hid hp
 have Hs := hid hs
 have Hwl := hid hwl
 have HIx := hid hix
 have HLen := hid hlen
 have HOT := hid hOT
 have HLB := hid (LBox.alloc w 2 fr O KH KW st pd a1 ws.length c1 a2 bs.length c2 42)
 have hB1 := ((Below.refl w.heap.size w).alloc (Nat.le_refl _) (.cells #[.int .i64 2, .int .i64 fr, .int .i64 O, .int .i64 KH, .int .i64 KW, .int .i64 st, .int .i64 pd, .slice a1 ws.length c1, .slice a2 bs.length c2] 42))
 have hsl : 0 < sh.length := (List.getElem?_eq_some_iff.1 hC).1
 have HWn := hid (rWin cS KH KW st pd (hS.below hB1))
 have HB1 := hid hB1
 obtain ⟨bS, oS, d0, rfl, sc, hd0, _, hbS, _, _, _⟩ := hS.pick2 hsl
 rw [hC] at hd0
 cases hd0
 have m0 : IntKind.i64.wrap ((C : Int) * (KH : Int)) = (ck : Int) := by rw [<- Int.natCast_mul, <- hck]; exact IntWalk.i64_in _ (by omega)
 have m1 : IntKind.i64.wrap ((ck : Int) * (KW : Int)) = (n : Int) := by rw [<- Int.natCast_mul, <- hn]; exact IntWalk.i64_in _ (by omega)
 have HWin := hid hwin
 have HT := hid hT
 have HEnd : Hid ((convQ O bs ws n win x).map ratL = (flatQ (convAt bs ws n win x) T O 0).map ratL) := by unfold Hid; rw [convQ_flat, <- hT]
 rw [HEnd.out]
 clear hW hB hX hS hw1 hx1 hp hs hwl hB1 hC hck hn hwin hix hlen hOT hT HEnd
 unfold layVal
 go_enter Tryz.func39, Tryz.ntmps39
 go_upto_region 1 with fail
 generalize w.alloc (.cells #[.int .i64 2, .int .i64 fr, .int .i64 O, .int .i64 KH, .int .i64 KW, .int .i64 st, .int .i64 pd, .slice a1 ws.length c1, .slice a2 bs.length c2] 42) = W1 at *
 obtain ⟨f0, f2, f3, f4, f5, f6, _, _, _⟩ := HLB.out
 go_wp2_with fail
 refine HWn.out.mono ?_
 rintro e Wx ⟨aw, cw, rfl, hI, hb⟩
 rw [HWin.out] at hI ⊢
 rw [<- HT.out]
 generalize (windowsL sh KH KW st pd).2.1 = e1 at *
 generalize (windowsL sh KH KW st pd).2.2.1 = e2 at *
 generalize (windowsL sh KH KW st pd).2.2.2 = e3 at *
 have HI := hid hI
 have HLx := hid (HLB.out.below hb HLB.out.lt)
 have HBx := hid (HB1.out.trans (hb.mono HB1.out.size))
 have sc := (HBx.out.cell (p := ⟨bS, oS, none⟩) hbS).trans sc
 clear f0 f2 f3 f4 f5 f6 hI hb HLB HB1 HWn
 obtain ⟨f0, f2, f3, f4, f5, f6, f7, f8, _⟩ := HLx.out
 go_wp2
 go_quiet (fail)
 clear f0 f3 f4 f5 f6 f7 f8
 go_wp2
 have hdn : Below Wx.heap.size Wx (Wx.drewN nq) := below_drewN (Below.refl _ _) nq
 have HI := hid (HI.out.below hdn)
 have HLx := hid (HLx.out.below hdn HLx.out.lt)
 have HBx := hid (HBx.out.trans (hdn.mono HBx.out.size))
 clear hdn sc f2
 generalize Wx.drewN nq = Wy at *
 go_loopw [9, 18] (fun v i wr => ∃ (k m : Nat) (a : Option Addr) (c : Nat), k <= O /\ Hid (m = k * T) /\ v = .slice a m c /\ i = .int .i64 (k : Int) /\ Hid (OutI Wy wr (.slice a m c) ((flatQ (convAt bs ws n win x) T k 0).map ratL))) (fun _ i _ => O - (intOf i).toNat)
 case atStart => exact ⟨0, 0, none, 0, Nat.zero_le _, by unfold Hid; omega, rfl, rfl, OutI.start Wy⟩
 case round =>
  obtain ⟨k, m, b0, k0, hk, HM, rfl, rfl, HOut⟩ := hrel
  have f2 := (HLx.out.below HOut.out.bl HLx.out.lt).f2
  by_cases hlt : k < O
  ·go_wp2
   clear f2
   go_loopw [9, 19] (fun v j wr => ∃ (i m : Nat) (a : Option Addr) (c : Nat), i <= T /\ Hid (m = k * T + i) /\ v = .slice a m c /\ j = .int .i64 (i : Int) /\ Hid (OutI Wy wr (.slice a m c) ((flatQ (convAt bs ws n win x) T k i).map ratL))) (fun _ j _ => T - (intOf j).toNat)
   case atStart => exact ⟨0, m, b0, k0, Nat.zero_le _, HM.out, rfl, rfl, HOut.out⟩
   case round =>
    clear HM HOut
    obtain ⟨i, m, b0, k0, hi0, HM, rfl, rfl, HOut⟩ := hrel
    have HLr := hid (HLx.out.below HOut.out.bl HLx.out.lt)
    by_cases hi : i < T
    ·obtain ⟨p0, hp0⟩ : ∃ p0, p0 = k * n := ⟨_, rfl⟩
     obtain ⟨p1, hp1⟩ : ∃ p1, p1 = (k + 1) * n := ⟨_, rfl⟩
     have hmul : p1 <= ws.length := by rw [hp1]; exact Nat.le_trans (Nat.mul_le_mul_right _ hlt) Hwl.out
     have hp01 : p1 = p0 + n := by rw [hp1, hp0, Nat.succ_mul]
     have hmT : m + 1 <= 1000000 := by
      have h1 : (k + 1) * T <= O * T := Nat.mul_le_mul_right _ hlt
      have h2 := HOT.out
      have h3 := HM.out
      rw [Nat.succ_mul] at h1
      omega
     obtain ⟨bb, ob, u, un, ud, ucn, ucd, rfl, hbb, hu, uc0, uc1, uc2, huv⟩ := HBi.out.pick (k := k) (by rw [List.length_map]; omega)
     obtain ⟨bw, ow, _, _, _, _, _, rfl, hbw, _, _, _, _, _⟩ := HW.out.pick (k := p0) (by rw [List.length_map]; omega)
     obtain ⟨bt, ot, l, ai, ci, rfl, tc0, hl, hlc, hIl, hbt, _⟩ := HI.out.pickc (k := i) (by have := HT.out; omega)
     have hmem := List.mem_of_getElem? hl
     have hln : l.length = n := HLen.out l hmem
     rw [hln] at tc0
     obtain ⟨hu1, hu2⟩ := map_get hu
     obtain ⟨s1, hs1⟩ : ∃ s1, s1 = ratL (convAt bs ws n win x k i) := ⟨_, rfl⟩
     have hsub := HW.out.sub (lo := p0) (n := n) (by rw [List.length_map]; omega)
     rw [partL_map] at hsub
     have hbr : Below w.heap.size w wr := HBx.out.trans (HOut.out.bl.mono HBx.out.size)
     have HSum : Hid (∀ W, Below wr.heap.size wr W -> Calls Tryz.prog 77 #[.agg #[.bool u.neg, .slice un u.num.length ucn, .slice ud u.den.length ucd], .slice (some ⟨bw, ow + p0 * 3, none⟩) n (c1 - p0), .slice ai n ci, .slice ax x.length cx] W (RetR W s1)) := fun W hb => by
      have hbw2 := hbr.trans (hb.mono hbr.size)
      have q1 : RatV W (.agg #[.bool u.neg, .slice un u.num.length ucn, .slice ud u.den.length ucd]) (ratL (bs.getD k 0)) := by rw [<- hu2]; exact huv.below hbw2
      have q2 : RatsAt W (some ⟨bw, ow + p0 * 3, none⟩) ((partL ws p0 n).map ratL) := hsub.below hbw2
      have q3 : Ints W _ ai l := hIl.below (HOut.out.bl.trans (hb.mono HOut.out.bl.size))
      have q4 : RatsAt W ax (x.map ratL) := HX.out.below hbw2
      have q5 : l.length <= (partL ws p0 n).length := by rw [hln, partL_len (by omega)]; exact Nat.le_refl _
      have q6 : ∀ j y : Nat, j < l.length -> l.getD j 0 = (y : Int) -> y < x.length := fun j y hj hy => by
       have hm : l.getD j 0 ∈ l := by rw [List.getD_eq_getElem?_getD, List.getElem?_eq_getElem hj]; exact List.getElem_mem _
       have := HIx.out l hmem _ hm
       omega
      have q7 : ∀ q ∈ partL ws p0 n, RatLe (ratL q) 1048575 := fun q hq => Hw1.out q (partL_mem hq)
      have q8 : ∀ p ∈ partL ws p0 n, ∀ q ∈ x, RatLe (ratL (p * q)) 524286 := fun p hp q hq => Hp.out p (partL_mem hp) q hq
      have q9 : ∀ j, j <= l.length -> RatLe (ratL (psum (bs.getD k 0) (partL ws p0 n) 0 l x j)) 524286 := fun j hj => by rw [hln] at hj; rw [hp0]; exact Hs.out k hlt l hmem j hj
      have h := r14Sum (c1 - p0) ci cx q1 q2 q3 q4 q5 q6 q7 Hx1.out q8 q9
      rw [hln, partL_len (by omega)] at h
      have e : win.getD i [] = l := by rw [List.getD_eq_getElem?_getD, hl]; rfl
      rw [hs1]
      unfold convAt
      rw [<- hp0, e]
      exact h
     have HCe : Hid (∀ W, Below wr.heap.size wr W -> W.cell? ⟨w.heap.size, 7, none⟩ = some (.slice (some ⟨bw, ow, none⟩) ws.length c1) /\ W.cell? ⟨w.heap.size, 8, none⟩ = some (.slice (some ⟨bb, ob, none⟩) bs.length c2) /\
       W.cell? ⟨bb, ob + k * 3, none⟩ = some (.bool u.neg) /\ W.cell? ⟨bb, ob + k * 3 + 1, none⟩ = some (.slice un u.num.length ucn) /\ W.cell? ⟨bb, ob + k * 3 + 2, none⟩ = some (.slice ud u.den.length ucd) /\ W.cell? ⟨bt, ot + i, none⟩ = some (.slice ai n ci)) := fun W hb => by
      have hbw2 := hbr.trans (hb.mono hbr.size)
      have hL2 := HLr.out.below hb HLr.out.lt
      exact ⟨hL2.f7, hL2.f8, (hbw2.cell hbb).trans uc0, (hbw2.cell hbb).trans uc1, (hbw2.cell hbb).trans uc2, ((HOut.out.bl.trans (hb.mono HOut.out.bl.size)).cell (p := ⟨bt, ot + i, none⟩) hbt).trans tc0⟩
     have HStep : Hid _ := flatQ_succ (convAt bs ws n win x) T k i
     rw [<- hs1] at HStep
     have HLn := hid ((flatQ_len (convAt bs ws n win x) T k i).trans HM.out.symm)
     have hkb : k < bs.length := by omega
     have m0 : IntKind.i64.wrap ((k : Int) * (n : Int)) = (p0 : Int) := by
      rw [<- Int.natCast_mul, <- hp0]; exact IntWalk.i64_in _ (by omega)
     have HM1 : Hid (Value.int .i64 (wrap64 (((k : Int) + 1) * (n : Int))) = .int .i64 (p1 : Int)) := by
      have e : ((k : Int) + 1) * (n : Int) = (p1 : Int) := by rw [hp1]; simp
      unfold Hid
      rw [e, IntWalk.wrap64_in _ (by omega)]
     have HP01 := hid hp01
     have hp1p0 : p0 <= p1 := by omega
     have hp0w : p0 < ws.length := by omega
     clear hu hu1 hu2 hs1 hsub hbr uc0 uc1 uc2 huv hp0 hp1 hp01 tc0 hl hmem hln hIl hlc
     go_upto_region 31 with fail
     refine wp_region_slots_tail 23 (by kernel_rfl) (by kernel_rfl) (by kernel_rfl) (by kernel_rfl) (by decide) (From wr.heap.size wr) (fun w w' => Below w.heap.size w w') (GR [.val (.slice b0 m k0), .val (.pointer (some ⟨w.heap.size, 8, none⟩)), .val (.slice (some ⟨bb, ob, none⟩) bs.length c2), .val (.int .i64 (k : Int)), .val (.pointer (some ⟨bb, ob + k * 3, none⟩)), .val (.agg #[.bool u.neg, .slice un u.num.length ucn, .slice ud u.den.length ucd]), .val (.pointer (some ⟨w.heap.size, 7, none⟩)), .val (.slice (some ⟨bw, ow, none⟩) ws.length c1), .val (.int .i64 (k : Int)), .val (.int .i64 (n : Int)), .val (.int .i64 (p0 : Int)), .val (.int .i64 (k : Int)), .val (.int .i64 ((k : Int) + 1)), .val (.int .i64 (n : Int)), .val (.int .i64 (p1 : Int)), .val (.slice (some ⟨bw, ow + p0 * 3, none⟩) n (c1 - p0)), .val (.slice (some ⟨bt, ot, none⟩) T cw), .val (.int .i64 (i : Int)), .val (.pointer (some ⟨bt, ot + i, none⟩)), .val (.slice ai n ci), .val (.slice ax x.length cx), .rat s1, .row s1]) (fun i v w w' h hb => GR_below h hb) (From.start (Nat.le_refl _)) ?_ ?_
     ·intro ops
      simp only [List.take_succ_cons, List.take_zero, Shows]
      refine ⟨?_, ?_, ?_, ?_, ?_, ?_, ?_, ?_, ?_, ?_, ?_, ?_, ?_, ?_, ?_, ?_, ?_, ?_, ?_, ?_, ?_, ?_, ?_, trivial⟩
      all_goals (intro g W hR hL; have hB := hR.base; obtain ⟨f7, f8, u0, u1, u2, t0⟩ := HCe.out W hR.be; simp only [Laid, Region.binds, forall_const, Bool.false_eq_true, false_implies, GR, List.getElem?_cons_zero, List.getElem?_cons_succ] at hL; simp [fillFrom, Act.put])
      ·clear hL
       have HR := hid hR
       clear hR
       go_wp2
       exact ⟨_, rfl, HR.out, Below.refl _ _, rfl⟩
      ·clear hL
       have HR := hid hR
       clear hR
       go_wp2
       exact ⟨_, rfl, HR.out, Below.refl _ _, rfl⟩
      ·generalize g 1 = y1 at hL ⊢
       obtain ⟨rfl, _⟩ := hL
       have HR := hid hR
       clear hR
       go_wp2
       exact ⟨_, rfl, HR.out, Below.refl _ _, rfl⟩
      ·clear hL
       have HR := hid hR
       clear hR
       go_wp2
       exact ⟨_, rfl, HR.out, Below.refl _ _, rfl⟩
      ·generalize g 2 = y2 at hL ⊢
       generalize g 3 = y3 at hL ⊢
       obtain ⟨rfl, rfl, _⟩ := hL
       have HR := hid hR
       clear hR
       go_wp2
       exact ⟨_, rfl, HR.out, Below.refl _ _, rfl⟩
      ·generalize g 4 = y4 at hL ⊢
       obtain ⟨rfl, _⟩ := hL
       have HR := hid hR
       clear hR
       go_wp2
       exact ⟨_, rfl, HR.out, Below.refl _ _, rfl⟩
      ·clear hL
       have HR := hid hR
       clear hR
       go_wp2
       exact ⟨_, rfl, HR.out, Below.refl _ _, rfl⟩
      ·generalize g 6 = y6 at hL ⊢
       obtain ⟨rfl, _⟩ := hL
       have HR := hid hR
       clear hR
       go_wp2
       exact ⟨_, rfl, HR.out, Below.refl _ _, rfl⟩
      ·clear hL
       have HR := hid hR
       clear hR
       go_wp2
       exact ⟨_, rfl, HR.out, Below.refl _ _, rfl⟩
      ·clear hL
       have HR := hid hR
       clear hR
       go_wp2
       exact ⟨_, rfl, HR.out, Below.refl _ _, rfl⟩
      ·generalize g 8 = y8 at hL ⊢
       generalize g 9 = y9 at hL ⊢
       obtain ⟨rfl, rfl, _⟩ := hL
       have HR := hid hR
       clear hR
       go_wp2
       exact ⟨_, rfl, HR.out, Below.refl _ _, rfl⟩
      ·clear hL
       have HR := hid hR
       clear hR
       go_wp2
       exact ⟨_, rfl, HR.out, Below.refl _ _, rfl⟩
      ·generalize g 11 = y11 at hL ⊢
       obtain ⟨rfl, _⟩ := hL
       have HR := hid hR
       clear hR
       go_wp2
       exact ⟨_, rfl, HR.out, Below.refl _ _, rfl⟩
      ·clear hL
       have HR := hid hR
       clear hR
       go_wp2
       exact ⟨_, rfl, HR.out, Below.refl _ _, rfl⟩
      ·generalize g 12 = y12 at hL ⊢
       generalize g 13 = y13 at hL ⊢
       obtain ⟨rfl, rfl, _⟩ := hL
       have HR := hid hR
       clear hR
       go_wp2
       exact ⟨_, rfl, HR.out, Below.refl _ _, HM1.out⟩
      ·generalize g 7 = y7 at hL ⊢
       generalize g 10 = y10 at hL ⊢
       generalize g 14 = y14 at hL ⊢
       obtain ⟨rfl, rfl, rfl, _⟩ := hL
       have HR := hid hR
       clear hR
       go_wp2
       exact ⟨_, rfl, HR.out, Below.refl _ _, by rw [show p1 - p0 = n by have := HP01.out; omega]; rfl⟩
      ·clear hL
       have HR := hid hR
       clear hR
       go_wp2
       exact ⟨_, rfl, HR.out, Below.refl _ _, rfl⟩
      ·clear hL
       have HR := hid hR
       clear hR
       go_wp2
       exact ⟨_, rfl, HR.out, Below.refl _ _, rfl⟩
      ·generalize g 16 = y16 at hL ⊢
       generalize g 17 = y17 at hL ⊢
       obtain ⟨rfl, rfl, _⟩ := hL
       have HR := hid hR
       clear hR
       go_wp2
       exact ⟨_, rfl, HR.out, Below.refl _ _, rfl⟩
      ·generalize g 18 = y18 at hL ⊢
       obtain ⟨rfl, _⟩ := hL
       have HR := hid hR
       clear hR
       go_wp2
       exact ⟨_, rfl, HR.out, Below.refl _ _, rfl⟩
      ·clear hL
       have HR := hid hR
       clear hR
       go_wp2
       exact ⟨_, rfl, HR.out, Below.refl _ _, rfl⟩
      ·generalize g 5 = y5 at hL ⊢
       generalize g 15 = y15 at hL ⊢
       generalize g 19 = y19 at hL ⊢
       generalize g 20 = y20 at hL ⊢
       obtain ⟨rfl, rfl, rfl, rfl, _⟩ := hL
       have HR := hid hR
       clear hR
       have HCt := hid (HSum.out W HR.out.be)
       go_wp2_with fail
       refine HCt.out.mono ?_
       rintro e w1 ⟨v1, rfl, kv, kb⟩
       have KV := hid kv
       have KB := hid kb
       clear kv kb HCt
       go_wp2
       exact ⟨_, rfl, ⟨Nat.le_trans HR.out.base KB.out.size, HR.out.be.trans (KB.out.mono HR.out.base)⟩, KB.out, KV.out⟩
      ·generalize g 21 = y21 at hL ⊢
       obtain ⟨H21, _⟩ := hL
       have K21 := hid H21
       have HR := hid hR
       clear hR H21
       obtain ⟨bn', bd', dn', dd', rfl, g2, g3, g4, g5⟩ := K21.out.ex
       have HRow := hid (Row1.alloc g2 g3 g4 g5 37)
       have HBa := hid ((Below.refl W.heap.size W).alloc (Nat.le_refl _) (ratO s1 bn' dn' bd' dd' 37))
       clear g4 g5 K21
       go_wp2
       exact ⟨_, rfl, ⟨Nat.le_trans HR.out.base HBa.out.size, HR.out.be.trans (HBa.out.mono HR.out.base)⟩, HBa.out, HRow.out⟩
     ·intro ops g W hR hL
      have hB := hR.base
      have J0 := hL.1.1.1.1.1.1.1.1.1.1.1.1.1.1.1.1.1.1.1.1.1.1.2
      have J22 := hL.2
      simp only [GR, List.getElem?_cons_zero, List.getElem?_cons_succ] at J0 J22
      obtain ⟨f7, f8, u0, u1, u2, t0⟩ := HCe.out W hR.be
      clear hL
      simp only [List.take_succ_cons, List.take_zero, List.drop_succ_cons, List.drop_zero]
      simp [fillFrom, Act.put]
      generalize g 0 = y0 at J0 ⊢
      obtain rfl := J0
      generalize g 22 = y22 at J22 ⊢
      have HR := hid hR
      clear hR
      have HO := hid (HOut.out.below HR.out.be)
      have HJ := hid J22
      clear J22
      go_wp2_with (at_builtin; refine wpList_appR rfl (.tmp 139) (.tmp 161) 26 rfl Wy.heap.size Tryz.underlying26 Tryz.infoRat (.slice b0 m k0) m _ HLn.out rfl HO.out.own y22 s1 HJ.out rfl (by omega) HO.out.bl.size ?_; intro b3 k3 w3 hown hk3 hg hbe)
      have HOut3 := hid (show OutI Wy w3 (.slice b3 (m + 1) k3) ((flatQ (convAt bs ws n win x) T k (i + 1)).map ratL) from ⟨by rw [HStep.out]; exact hown, HO.out.bl.trans hbe⟩)
      clear hown hg hbe
      go_wp2
      go_roundw
      case rel => exact ⟨i + 1, m + 1, b3, k3, hi, by unfold Hid; have := HM.out; omega, rfl, by go_num, HOut3.out⟩
      case measure => simp [intOf]; omega
    ·obtain rfl : i = T := by omega
     go_wp2
     go_roundw
     case rel => exact ⟨k + 1, m, b0, k0, hlt, by unfold Hid; rw [Nat.succ_mul]; exact HM.out, rfl, by go_num, by rw [<- flatQ_next]; exact HOut.out⟩
     case measure => simp [intOf]; omega
  ·obtain rfl : k = O := by omega
   go_wp2
   have hmb : m <= 9223372036854775807 := by have := HM.out; have := HOT.out; omega
   have hNP : RowRet w ((flatQ (convAt bs ws n win x) T k 0).map ratL) (.returned (.slice b0 m k0)) wr := HOut.out.ret ((flatQ_len _ _ _ _).trans HM.out.symm) hmb HBx.out
   exact bodyPost_ret (v := .slice b0 m k0) (by simp [results, Tryz.results39, go_sem]) rfl hNP
theorem r14PoolLM {w : World} {fr ot st pd : Int} {KH KW C n T ln : Nat} {a1 a2 ax aS af : Option Addr} {x : List Rat} {sh : List Int} {win : List (List Int)} {F : Nat -> Prop} (n1 c1 n2 c2 cx cS nf cf : Nat)
  (hX : RatsAt w ax (x.map ratL)) (hS : Ints w F aS sh) (hC : sh[0]? = some (C : Int)) (hn : n = KH * KW) (hn1 : 1 <= n) (hn2 : n <= 1000000) (hln : ln = C * n) (hln2 : ln <= 1000000)
  (hwin : (windowsL sh KH KW st 0).1 = win) (hT : T = win.length) (hT2 : T <= 1000000) (hlen : ∀ ix ∈ win, ix.length = ln) (hix : ∀ ix ∈ win, ∀ i ∈ ix, 0 <= i /\ i < x.length) (hCT : C * T <= 1000000)
  (hx1 : ∀ q ∈ x, RatLe (ratL q) 524285) (hs : ∀ ch, ch < C -> ∀ ix ∈ win, ∀ k, k < n -> RatLe (ratL (pmax (valsQ (partL ix (ch * n) n) x) k)) 524286) :
  Calls Tryz.prog 39 #[layVal 3 fr ot KH KW st pd a1 n1 c1 a2 n2 c2, .slice aS sh.length cS, .slice ax x.length cx, .slice af nf cf] w (RowRet w ((poolQ maxL C n win x).map ratL)) := by
 have hxl' := hX.len
 simp only [List.length_map] at hxl'
 have HX := hid hX
 have Hx1 := hid hx1
 have Hs := hid hs
 have HIx := hid hix
 have HLen := hid hlen
 have HLnE := hid hln
 have HCT := hid hCT
 have HLB := hid (LBox.alloc w 3 fr ot KH KW st pd a1 n1 c1 a2 n2 c2 42)
 have hB1 := ((Below.refl w.heap.size w).alloc (Nat.le_refl _) (.cells #[.int .i64 3, .int .i64 fr, .int .i64 ot, .int .i64 KH, .int .i64 KW, .int .i64 st, .int .i64 pd, .slice a1 n1 c1, .slice a2 n2 c2] 42))
 have hsl : 0 < sh.length := (List.getElem?_eq_some_iff.1 hC).1
 have HWn := hid (rWin cS KH KW st 0 (hS.below hB1))
 have HB1 := hid hB1
 obtain ⟨bS, oS, d0, rfl, sc, hd0, _, hbS, _, _, _⟩ := hS.pick2 hsl
 rw [hC] at hd0
 cases hd0
 have m1 : IntKind.i64.wrap ((KH : Int) * (KW : Int)) = (n : Int) := by rw [<- Int.natCast_mul, <- hn]; exact IntWalk.i64_in _ (by omega)
 have HWin := hid hwin
 have HT := hid hT
 have HEnd : Hid ((poolQ maxL C n win x).map ratL = (flatQ (poolAt maxL n win x) T C 0).map ratL) := by unfold Hid; rw [poolQ_flat, <- hT]
 rw [HEnd.out]
 clear hX hS hx1 hs hB1 hC hn hwin hix hlen hln hCT hT HEnd
 unfold layVal
 go_enter Tryz.func39, Tryz.ntmps39
 go_upto_region 1 with fail
 generalize w.alloc (.cells #[.int .i64 3, .int .i64 fr, .int .i64 ot, .int .i64 KH, .int .i64 KW, .int .i64 st, .int .i64 pd, .slice a1 n1 c1, .slice a2 n2 c2] 42) = W1 at *
 obtain ⟨f0, f2, f3, f4, f5, f6, _, _, _⟩ := HLB.out
 go_wp2_with fail
 refine HWn.out.mono ?_
 rintro e Wx ⟨aw, cw, rfl, hI, hb⟩
 rw [HWin.out] at hI ⊢
 rw [<- HT.out]
 generalize (windowsL sh KH KW st 0).2.1 = e1 at *
 generalize (windowsL sh KH KW st 0).2.2.1 = e2 at *
 generalize (windowsL sh KH KW st 0).2.2.2 = e3 at *
 have HI := hid hI
 have HLx := hid (HLB.out.below hb HLB.out.lt)
 have HBx := hid (HB1.out.trans (hb.mono HB1.out.size))
 have HSc : Hid (w.cell? ⟨bS, oS, none⟩ = some (.int .i64 (C : Int))) := sc
 clear sc f0 f2 f3 f4 f5 f6 hI hb HLB HB1 HWn
 obtain ⟨f0, f2, f3, f4, f5, f6, f7, f8, _⟩ := HLx.out
 go_wp2
 clear f0 f2 f3 f4 f5 f6 f7 f8
 go_loopw [9, 25] (fun v i wr => ∃ (k m : Nat) (a : Option Addr) (c : Nat), k <= C /\ Hid (m = k * T) /\ v = .slice a m c /\ i = .int .i64 (k : Int) /\ Hid (OutI Wx wr (.slice a m c) ((flatQ (poolAt maxL n win x) T k 0).map ratL))) (fun _ i _ => C - (intOf i).toNat)
 case atStart => exact ⟨0, 0, none, 0, Nat.zero_le _, by unfold Hid; omega, rfl, rfl, OutI.start Wx⟩
 case round =>
  obtain ⟨k, m, b0, k0, hk, HM, rfl, rfl, HOut⟩ := hrel
  have sc := ((HBx.out.trans (HOut.out.bl.mono HBx.out.size)).cell (p := ⟨bS, oS, none⟩) hbS).trans HSc.out
  by_cases hlt : k < C
  ·go_wp2
   clear sc
   go_loopw [9, 26] (fun v j wr => ∃ (i m : Nat) (a : Option Addr) (c : Nat), i <= T /\ Hid (m = k * T + i) /\ v = .slice a m c /\ j = .int .i64 (i : Int) /\ Hid (OutI Wx wr (.slice a m c) ((flatQ (poolAt maxL n win x) T k i).map ratL))) (fun _ j _ => T - (intOf j).toNat)
   case atStart => exact ⟨0, m, b0, k0, Nat.zero_le _, HM.out, rfl, rfl, HOut.out⟩
   case round =>
    clear HM HOut
    obtain ⟨i, m, b0, k0, hi0, HM, rfl, rfl, HOut⟩ := hrel
    have HLr := hid (HLx.out.below HOut.out.bl HLx.out.lt)
    by_cases hi : i < T
    ·obtain ⟨p0, hp0⟩ : ∃ p0, p0 = k * n := ⟨_, rfl⟩
     obtain ⟨p1, hp1⟩ : ∃ p1, p1 = (k + 1) * n := ⟨_, rfl⟩
     have hmul : p1 <= ln := by rw [hp1, HLnE.out]; exact Nat.mul_le_mul_right _ hlt
     have hp01 : p1 = p0 + n := by rw [hp1, hp0, Nat.succ_mul]
     have hmT : m + 1 <= 1000000 := by
      have h1 : (k + 1) * T <= C * T := Nat.mul_le_mul_right _ hlt
      have h2 := HCT.out
      have h3 := HM.out
      rw [Nat.succ_mul] at h1
      omega
     obtain ⟨bt, ot', l, ai, ci, rfl, tc0, hl, hlc, hIl, hbt, _⟩ := HI.out.pickc (k := i) (by have := HT.out; omega)
     have hmem := List.mem_of_getElem? hl
     have hlL : l.length = ln := HLen.out l hmem
     rw [hlL] at tc0 hlc
     obtain ⟨bi, oi, _, rfl, _, _, _, _, _, _, _⟩ := hIl.pick2 (k := 0) (by omega)
     obtain ⟨s1, hs1⟩ : ∃ s1, s1 = ratL (poolAt maxL n win x k i) := ⟨_, rfl⟩
     have hsub := (hIl.sub (lo := p0) (n := n) (by omega)).2
     have hpl : (partL l p0 n).length = n := partL_len (by omega)
     have hbr : Below w.heap.size w wr := HBx.out.trans (HOut.out.bl.mono HBx.out.size)
     have HSum : Hid (∀ W, Below wr.heap.size wr W -> Calls Tryz.prog 79 #[.int .i64 3, .slice (some ⟨bi, oi + p0, none⟩) n (ci - p0), .slice ax x.length cx] W (RetR W s1)) := fun W hb => by
      have hbw2 := hbr.trans (hb.mono hbr.size)
      have q3 : Ints W _ (some ⟨bi, oi + p0, none⟩) (partL l p0 n) := hsub.below (HOut.out.bl.trans (hb.mono HOut.out.bl.size))
      have q4 : RatsAt W ax (x.map ratL) := HX.out.below hbw2
      have q5 : 1 <= (partL l p0 n).length := by omega
      have q6 : ∀ i ∈ partL l p0 n, 0 <= i /\ i < x.length := fun i hi => HIx.out l hmem i (partL_mem hi)
      have q9 : ∀ j, j < (partL l p0 n).length -> RatLe (ratL (pmax (valsQ (partL l p0 n) x) j)) 524286 := fun j hj => by rw [hpl] at hj; rw [hp0]; exact Hs.out k hlt l hmem j hj
      have h := r14PoolM (ci - p0) cx q3 q4 q5 q6 Hx1.out q9
      rw [hpl] at h
      have e : win.getD i [] = l := by rw [List.getD_eq_getElem?_getD, hl]; rfl
      rw [hs1]
      unfold poolAt
      rw [<- hp0, e]
      exact h
     have HCe : Hid (∀ W, Below wr.heap.size wr W -> W.cell? ⟨w.heap.size, 0, none⟩ = some (.int .i64 3) /\ W.cell? ⟨bt, ot' + i, none⟩ = some (.slice (some ⟨bi, oi, none⟩) ln ci)) := fun W hb => by
      have hL2 := HLr.out.below hb HLr.out.lt
      exact ⟨hL2.f0, ((HOut.out.bl.trans (hb.mono HOut.out.bl.size)).cell (p := ⟨bt, ot' + i, none⟩) hbt).trans tc0⟩
     have HStep : Hid _ := flatQ_succ (poolAt maxL n win x) T k i
     rw [<- hs1] at HStep
     have HLn := hid ((flatQ_len (poolAt maxL n win x) T k i).trans HM.out.symm)
     have m0 : IntKind.i64.wrap ((k : Int) * (n : Int)) = (p0 : Int) := by
      rw [<- Int.natCast_mul, <- hp0]; exact IntWalk.i64_in _ (by omega)
     have HM1 : Hid (Value.int .i64 (wrap64 (((k : Int) + 1) * (n : Int))) = .int .i64 (p1 : Int)) := by
      have e : ((k : Int) + 1) * (n : Int) = (p1 : Int) := by rw [hp1]; simp
      unfold Hid
      rw [e, IntWalk.wrap64_in _ (by omega)]
     have HP01 := hid hp01
     have hp1p0 : p0 <= p1 := by omega
     have hp0w : p0 < ln := by omega
     clear hs1 hsub hpl hbr hp0 hp1 hp01 tc0 hl hmem hlL hIl
     go_upto_region 42 with fail
     refine wp_region_slots_tail 18 (by kernel_rfl) (by kernel_rfl) (by kernel_rfl) (by kernel_rfl) (by decide) (From wr.heap.size wr) (fun w w' => Below w.heap.size w w') (GR [.val (.slice b0 m k0), .val (.pointer (some ⟨w.heap.size, 0, none⟩)), .val (.int .i64 3), .val (.slice (some ⟨bt, ot', none⟩) T cw), .val (.int .i64 (i : Int)), .val (.pointer (some ⟨bt, ot' + i, none⟩)), .val (.slice (some ⟨bi, oi, none⟩) ln ci), .val (.int .i64 (k : Int)), .val (.int .i64 (n : Int)), .val (.int .i64 (p0 : Int)), .val (.int .i64 (k : Int)), .val (.int .i64 ((k : Int) + 1)), .val (.int .i64 (n : Int)), .val (.int .i64 (p1 : Int)), .val (.slice (some ⟨bi, oi + p0, none⟩) n (ci - p0)), .val (.slice ax x.length cx), .rat s1, .row s1]) (fun i v w w' h hb => GR_below h hb) (From.start (Nat.le_refl _)) ?_ ?_
     ·intro ops
      simp only [List.take_succ_cons, List.take_zero, Shows]
      refine ⟨?_, ?_, ?_, ?_, ?_, ?_, ?_, ?_, ?_, ?_, ?_, ?_, ?_, ?_, ?_, ?_, ?_, ?_, trivial⟩
      all_goals (intro g W hR hL; have hB := hR.base; obtain ⟨f0, t0⟩ := HCe.out W hR.be; simp only [Laid, Region.binds, forall_const, Bool.false_eq_true, false_implies, GR, List.getElem?_cons_zero, List.getElem?_cons_succ] at hL; simp [fillFrom, Act.put])
      ·clear hL
       have HR := hid hR
       clear hR
       go_wp2
       exact ⟨_, rfl, HR.out, Below.refl _ _, rfl⟩
      ·clear hL
       have HR := hid hR
       clear hR
       go_wp2
       exact ⟨_, rfl, HR.out, Below.refl _ _, rfl⟩
      ·generalize g 1 = y1 at hL ⊢
       obtain ⟨rfl, _⟩ := hL
       have HR := hid hR
       clear hR
       go_wp2
       exact ⟨_, rfl, HR.out, Below.refl _ _, rfl⟩
      ·clear hL
       have HR := hid hR
       clear hR
       go_wp2
       exact ⟨_, rfl, HR.out, Below.refl _ _, rfl⟩
      ·clear hL
       have HR := hid hR
       clear hR
       go_wp2
       exact ⟨_, rfl, HR.out, Below.refl _ _, rfl⟩
      ·generalize g 3 = y3 at hL ⊢
       generalize g 4 = y4 at hL ⊢
       obtain ⟨rfl, rfl, _⟩ := hL
       have HR := hid hR
       clear hR
       go_wp2
       exact ⟨_, rfl, HR.out, Below.refl _ _, rfl⟩
      ·generalize g 5 = y5 at hL ⊢
       obtain ⟨rfl, _⟩ := hL
       have HR := hid hR
       clear hR
       go_wp2
       exact ⟨_, rfl, HR.out, Below.refl _ _, rfl⟩
      ·clear hL
       have HR := hid hR
       clear hR
       go_wp2
       exact ⟨_, rfl, HR.out, Below.refl _ _, rfl⟩
      ·clear hL
       have HR := hid hR
       clear hR
       go_wp2
       exact ⟨_, rfl, HR.out, Below.refl _ _, rfl⟩
      ·generalize g 7 = y7 at hL ⊢
       generalize g 8 = y8 at hL ⊢
       obtain ⟨rfl, rfl, _⟩ := hL
       have HR := hid hR
       clear hR
       go_wp2
       exact ⟨_, rfl, HR.out, Below.refl _ _, rfl⟩
      ·clear hL
       have HR := hid hR
       clear hR
       go_wp2
       exact ⟨_, rfl, HR.out, Below.refl _ _, rfl⟩
      ·generalize g 10 = y10 at hL ⊢
       obtain ⟨rfl, _⟩ := hL
       have HR := hid hR
       clear hR
       go_wp2
       exact ⟨_, rfl, HR.out, Below.refl _ _, rfl⟩
      ·clear hL
       have HR := hid hR
       clear hR
       go_wp2
       exact ⟨_, rfl, HR.out, Below.refl _ _, rfl⟩
      ·generalize g 11 = y11 at hL ⊢
       generalize g 12 = y12 at hL ⊢
       obtain ⟨rfl, rfl, _⟩ := hL
       have HR := hid hR
       clear hR
       go_wp2
       exact ⟨_, rfl, HR.out, Below.refl _ _, HM1.out⟩
      ·generalize g 6 = y6 at hL ⊢
       generalize g 9 = y9 at hL ⊢
       generalize g 13 = y13 at hL ⊢
       obtain ⟨rfl, rfl, rfl, _⟩ := hL
       have HR := hid hR
       clear hR
       go_wp2
       have e9 : p1 - p0 = n := by have := HP01.out; omega
       first | exact ⟨_, rfl, HR.out, Below.refl _ _, by rw [e9]; rfl⟩ | exact ⟨HR.out, Below.refl _ _, by rw [e9]; rfl⟩ | trace_state
      ·clear hL
       have HR := hid hR
       clear hR
       go_wp2
       exact ⟨_, rfl, HR.out, Below.refl _ _, rfl⟩
      ·generalize g 2 = y2 at hL ⊢
       generalize g 14 = y14 at hL ⊢
       generalize g 15 = y15 at hL ⊢
       obtain ⟨rfl, rfl, rfl, _⟩ := hL
       have HR := hid hR
       clear hR
       have HCt := hid (HSum.out W HR.out.be)
       go_wp2_with fail
       refine HCt.out.mono ?_
       rintro e w1 ⟨v1, rfl, kv, kb⟩
       have KV := hid kv
       have KB := hid kb
       clear kv kb HCt
       go_wp2
       exact ⟨_, rfl, ⟨Nat.le_trans HR.out.base KB.out.size, HR.out.be.trans (KB.out.mono HR.out.base)⟩, KB.out, KV.out⟩
      ·generalize g 16 = y16 at hL ⊢
       obtain ⟨H16, _⟩ := hL
       have K16 := hid H16
       have HR := hid hR
       clear hR H16
       obtain ⟨bn', bd', dn', dd', rfl, g2, g3, g4, g5⟩ := K16.out.ex
       have HRow := hid (Row1.alloc g2 g3 g4 g5 37)
       have HBa := hid ((Below.refl W.heap.size W).alloc (Nat.le_refl _) (ratO s1 bn' dn' bd' dd' 37))
       clear g4 g5 K16
       go_wp2
       exact ⟨_, rfl, ⟨Nat.le_trans HR.out.base HBa.out.size, HR.out.be.trans (HBa.out.mono HR.out.base)⟩, HBa.out, HRow.out⟩
     ·intro ops g W hR hL
      have hB := hR.base
      have J0 := hL.1.1.1.1.1.1.1.1.1.1.1.1.1.1.1.1.1.2
      have J17 := hL.2
      simp only [GR, List.getElem?_cons_zero, List.getElem?_cons_succ] at J0 J17
      obtain ⟨f0, t0⟩ := HCe.out W hR.be
      clear hL
      simp only [List.take_succ_cons, List.take_zero, List.drop_succ_cons, List.drop_zero]
      simp [fillFrom, Act.put]
      generalize g 0 = y0 at J0 ⊢
      obtain rfl := J0
      generalize g 17 = y17 at J17 ⊢
      have HR := hid hR
      clear hR
      have HO := hid (HOut.out.below HR.out.be)
      have HJ := hid J17
      clear J17
      go_wp2_with (at_builtin; refine wpList_appR rfl (.tmp 197) (.tmp 214) 26 rfl Wx.heap.size Tryz.underlying26 Tryz.infoRat (.slice b0 m k0) m _ HLn.out rfl HO.out.own y17 s1 HJ.out rfl (by omega) HO.out.bl.size ?_; intro b3 k3 w3 hown hk3 hg hbe)
      have HOut3 := hid (show OutI Wx w3 (.slice b3 (m + 1) k3) ((flatQ (poolAt maxL n win x) T k (i + 1)).map ratL) from ⟨by rw [HStep.out]; exact hown, HO.out.bl.trans hbe⟩)
      clear hown hg hbe
      go_wp2
      go_roundw
      case rel => exact ⟨i + 1, m + 1, b3, k3, hi, by unfold Hid; have := HM.out; omega, rfl, by go_num, HOut3.out⟩
      case measure => simp [intOf]; omega
    ·obtain rfl : i = T := by omega
     go_wp2
     go_roundw
     case rel => exact ⟨k + 1, m, b0, k0, hlt, by unfold Hid; rw [Nat.succ_mul]; exact HM.out, rfl, by go_num, by rw [<- flatQ_next]; exact HOut.out⟩
     case measure => simp [intOf]; omega
  ·obtain rfl : k = C := by omega
   go_wp2
   have hmb : m <= 9223372036854775807 := by have := HM.out; have := HCT.out; omega
   have hNP : RowRet w ((flatQ (poolAt maxL n win x) T k 0).map ratL) (.returned (.slice b0 m k0)) wr := HOut.out.ret ((flatQ_len _ _ _ _).trans HM.out.symm) hmb HBx.out
   exact bodyPost_ret (v := .slice b0 m k0) (by simp [results, Tryz.results39, go_sem]) rfl hNP
theorem r14PoolLA {w : World} {fr ot st pd : Int} {KH KW C n T ln : Nat} {a1 a2 ax aS af : Option Addr} {x : List Rat} {sh : List Int} {win : List (List Int)} {F : Nat -> Prop} (n1 c1 n2 c2 cx cS nf cf : Nat)
  (hX : RatsAt w ax (x.map ratL)) (hS : Ints w F aS sh) (hC : sh[0]? = some (C : Int)) (hn : n = KH * KW) (hn1 : 1 <= n) (hn2 : n <= 1000000) (hln : ln = C * n) (hln2 : ln <= 1000000)
  (hwin : (windowsL sh KH KW st 0).1 = win) (hT : T = win.length) (hT2 : T <= 1000000) (hlen : ∀ ix ∈ win, ix.length = ln) (hix : ∀ ix ∈ win, ∀ i ∈ ix, 0 <= i /\ i < x.length) (hCT : C * T <= 1000000)
  (hx1 : ∀ q ∈ x, RatLe (ratL q) 524285) (hs : ∀ ch, ch < C -> ∀ ix ∈ win, ∀ k, k < n -> RatLe (ratL (padd (valsQ (partL ix (ch * n) n) x) k)) 524286) :
  Calls Tryz.prog 39 #[layVal 4 fr ot KH KW st pd a1 n1 c1 a2 n2 c2, .slice aS sh.length cS, .slice ax x.length cx, .slice af nf cf] w (RowRet w ((poolQ avgL C n win x).map ratL)) := by
 have hxl' := hX.len
 simp only [List.length_map] at hxl'
 have HX := hid hX
 have Hx1 := hid hx1
 have Hs := hid hs
 have HIx := hid hix
 have HLen := hid hlen
 have HLnE := hid hln
 have HCT := hid hCT
 have HLB := hid (LBox.alloc w 4 fr ot KH KW st pd a1 n1 c1 a2 n2 c2 42)
 have hB1 := ((Below.refl w.heap.size w).alloc (Nat.le_refl _) (.cells #[.int .i64 4, .int .i64 fr, .int .i64 ot, .int .i64 KH, .int .i64 KW, .int .i64 st, .int .i64 pd, .slice a1 n1 c1, .slice a2 n2 c2] 42))
 have hsl : 0 < sh.length := (List.getElem?_eq_some_iff.1 hC).1
 have HWn := hid (rWin cS KH KW st 0 (hS.below hB1))
 have HB1 := hid hB1
 obtain ⟨bS, oS, d0, rfl, sc, hd0, _, hbS, _, _, _⟩ := hS.pick2 hsl
 rw [hC] at hd0
 cases hd0
 have m1 : IntKind.i64.wrap ((KH : Int) * (KW : Int)) = (n : Int) := by rw [<- Int.natCast_mul, <- hn]; exact IntWalk.i64_in _ (by omega)
 have HWin := hid hwin
 have HT := hid hT
 have HEnd : Hid ((poolQ avgL C n win x).map ratL = (flatQ (poolAt avgL n win x) T C 0).map ratL) := by unfold Hid; rw [poolQ_flat, <- hT]
 rw [HEnd.out]
 clear hX hS hx1 hs hB1 hC hn hwin hix hlen hln hCT hT HEnd
 unfold layVal
 go_enter Tryz.func39, Tryz.ntmps39
 go_upto_region 1 with fail
 generalize w.alloc (.cells #[.int .i64 4, .int .i64 fr, .int .i64 ot, .int .i64 KH, .int .i64 KW, .int .i64 st, .int .i64 pd, .slice a1 n1 c1, .slice a2 n2 c2] 42) = W1 at *
 obtain ⟨f0, f2, f3, f4, f5, f6, _, _, _⟩ := HLB.out
 go_wp2_with fail
 refine HWn.out.mono ?_
 rintro e Wx ⟨aw, cw, rfl, hI, hb⟩
 rw [HWin.out] at hI ⊢
 rw [<- HT.out]
 generalize (windowsL sh KH KW st 0).2.1 = e1 at *
 generalize (windowsL sh KH KW st 0).2.2.1 = e2 at *
 generalize (windowsL sh KH KW st 0).2.2.2 = e3 at *
 have HI := hid hI
 have HLx := hid (HLB.out.below hb HLB.out.lt)
 have HBx := hid (HB1.out.trans (hb.mono HB1.out.size))
 have HSc : Hid (w.cell? ⟨bS, oS, none⟩ = some (.int .i64 (C : Int))) := sc
 clear sc f0 f2 f3 f4 f5 f6 hI hb HLB HB1 HWn
 obtain ⟨f0, f2, f3, f4, f5, f6, f7, f8, _⟩ := HLx.out
 go_wp2
 clear f0 f2 f3 f4 f5 f6 f7 f8
 go_loopw [9, 25] (fun v i wr => ∃ (k m : Nat) (a : Option Addr) (c : Nat), k <= C /\ Hid (m = k * T) /\ v = .slice a m c /\ i = .int .i64 (k : Int) /\ Hid (OutI Wx wr (.slice a m c) ((flatQ (poolAt avgL n win x) T k 0).map ratL))) (fun _ i _ => C - (intOf i).toNat)
 case atStart => exact ⟨0, 0, none, 0, Nat.zero_le _, by unfold Hid; omega, rfl, rfl, OutI.start Wx⟩
 case round =>
  obtain ⟨k, m, b0, k0, hk, HM, rfl, rfl, HOut⟩ := hrel
  have sc := ((HBx.out.trans (HOut.out.bl.mono HBx.out.size)).cell (p := ⟨bS, oS, none⟩) hbS).trans HSc.out
  by_cases hlt : k < C
  ·go_wp2
   clear sc
   go_loopw [9, 26] (fun v j wr => ∃ (i m : Nat) (a : Option Addr) (c : Nat), i <= T /\ Hid (m = k * T + i) /\ v = .slice a m c /\ j = .int .i64 (i : Int) /\ Hid (OutI Wx wr (.slice a m c) ((flatQ (poolAt avgL n win x) T k i).map ratL))) (fun _ j _ => T - (intOf j).toNat)
   case atStart => exact ⟨0, m, b0, k0, Nat.zero_le _, HM.out, rfl, rfl, HOut.out⟩
   case round =>
    clear HM HOut
    obtain ⟨i, m, b0, k0, hi0, HM, rfl, rfl, HOut⟩ := hrel
    have HLr := hid (HLx.out.below HOut.out.bl HLx.out.lt)
    by_cases hi : i < T
    ·obtain ⟨p0, hp0⟩ : ∃ p0, p0 = k * n := ⟨_, rfl⟩
     obtain ⟨p1, hp1⟩ : ∃ p1, p1 = (k + 1) * n := ⟨_, rfl⟩
     have hmul : p1 <= ln := by rw [hp1, HLnE.out]; exact Nat.mul_le_mul_right _ hlt
     have hp01 : p1 = p0 + n := by rw [hp1, hp0, Nat.succ_mul]
     have hmT : m + 1 <= 1000000 := by
      have h1 : (k + 1) * T <= C * T := Nat.mul_le_mul_right _ hlt
      have h2 := HCT.out
      have h3 := HM.out
      rw [Nat.succ_mul] at h1
      omega
     obtain ⟨bt, ot', l, ai, ci, rfl, tc0, hl, hlc, hIl, hbt, _⟩ := HI.out.pickc (k := i) (by have := HT.out; omega)
     have hmem := List.mem_of_getElem? hl
     have hlL : l.length = ln := HLen.out l hmem
     rw [hlL] at tc0 hlc
     obtain ⟨bi, oi, _, rfl, _, _, _, _, _, _, _⟩ := hIl.pick2 (k := 0) (by omega)
     obtain ⟨s1, hs1⟩ : ∃ s1, s1 = ratL (poolAt avgL n win x k i) := ⟨_, rfl⟩
     have hsub := (hIl.sub (lo := p0) (n := n) (by omega)).2
     have hpl : (partL l p0 n).length = n := partL_len (by omega)
     have hbr : Below w.heap.size w wr := HBx.out.trans (HOut.out.bl.mono HBx.out.size)
     have HSum : Hid (∀ W, Below wr.heap.size wr W -> Calls Tryz.prog 79 #[.int .i64 4, .slice (some ⟨bi, oi + p0, none⟩) n (ci - p0), .slice ax x.length cx] W (RetR W s1)) := fun W hb => by
      have hbw2 := hbr.trans (hb.mono hbr.size)
      have q3 : Ints W _ (some ⟨bi, oi + p0, none⟩) (partL l p0 n) := hsub.below (HOut.out.bl.trans (hb.mono HOut.out.bl.size))
      have q4 : RatsAt W ax (x.map ratL) := HX.out.below hbw2
      have q5 : 1 <= (partL l p0 n).length := by omega
      have q6 : ∀ i ∈ partL l p0 n, 0 <= i /\ i < x.length := fun i hi => HIx.out l hmem i (partL_mem hi)
      have q9 : ∀ j, j < (partL l p0 n).length -> RatLe (ratL (padd (valsQ (partL l p0 n) x) j)) 524286 := fun j hj => by rw [hpl] at hj; rw [hp0]; exact Hs.out k hlt l hmem j hj
      have h := r14PoolA (ci - p0) cx q3 q4 q5 q6 Hx1.out q9
      rw [hpl] at h
      have e : win.getD i [] = l := by rw [List.getD_eq_getElem?_getD, hl]; rfl
      rw [hs1]
      unfold poolAt
      rw [<- hp0, e]
      exact h
     have HCe : Hid (∀ W, Below wr.heap.size wr W -> W.cell? ⟨w.heap.size, 0, none⟩ = some (.int .i64 4) /\ W.cell? ⟨bt, ot' + i, none⟩ = some (.slice (some ⟨bi, oi, none⟩) ln ci)) := fun W hb => by
      have hL2 := HLr.out.below hb HLr.out.lt
      exact ⟨hL2.f0, ((HOut.out.bl.trans (hb.mono HOut.out.bl.size)).cell (p := ⟨bt, ot' + i, none⟩) hbt).trans tc0⟩
     have HStep : Hid _ := flatQ_succ (poolAt avgL n win x) T k i
     rw [<- hs1] at HStep
     have HLn := hid ((flatQ_len (poolAt avgL n win x) T k i).trans HM.out.symm)
     have m0 : IntKind.i64.wrap ((k : Int) * (n : Int)) = (p0 : Int) := by
      rw [<- Int.natCast_mul, <- hp0]; exact IntWalk.i64_in _ (by omega)
     have HM1 : Hid (Value.int .i64 (wrap64 (((k : Int) + 1) * (n : Int))) = .int .i64 (p1 : Int)) := by
      have e : ((k : Int) + 1) * (n : Int) = (p1 : Int) := by rw [hp1]; simp
      unfold Hid
      rw [e, IntWalk.wrap64_in _ (by omega)]
     have HP01 := hid hp01
     have hp1p0 : p0 <= p1 := by omega
     have hp0w : p0 < ln := by omega
     clear hs1 hsub hpl hbr hp0 hp1 hp01 tc0 hl hmem hlL hIl
     go_upto_region 42 with fail
     refine wp_region_slots_tail 18 (by kernel_rfl) (by kernel_rfl) (by kernel_rfl) (by kernel_rfl) (by decide) (From wr.heap.size wr) (fun w w' => Below w.heap.size w w') (GR [.val (.slice b0 m k0), .val (.pointer (some ⟨w.heap.size, 0, none⟩)), .val (.int .i64 4), .val (.slice (some ⟨bt, ot', none⟩) T cw), .val (.int .i64 (i : Int)), .val (.pointer (some ⟨bt, ot' + i, none⟩)), .val (.slice (some ⟨bi, oi, none⟩) ln ci), .val (.int .i64 (k : Int)), .val (.int .i64 (n : Int)), .val (.int .i64 (p0 : Int)), .val (.int .i64 (k : Int)), .val (.int .i64 ((k : Int) + 1)), .val (.int .i64 (n : Int)), .val (.int .i64 (p1 : Int)), .val (.slice (some ⟨bi, oi + p0, none⟩) n (ci - p0)), .val (.slice ax x.length cx), .rat s1, .row s1]) (fun i v w w' h hb => GR_below h hb) (From.start (Nat.le_refl _)) ?_ ?_
     ·intro ops
      simp only [List.take_succ_cons, List.take_zero, Shows]
      refine ⟨?_, ?_, ?_, ?_, ?_, ?_, ?_, ?_, ?_, ?_, ?_, ?_, ?_, ?_, ?_, ?_, ?_, ?_, trivial⟩
      all_goals (intro g W hR hL; have hB := hR.base; obtain ⟨f0, t0⟩ := HCe.out W hR.be; simp only [Laid, Region.binds, forall_const, Bool.false_eq_true, false_implies, GR, List.getElem?_cons_zero, List.getElem?_cons_succ] at hL; simp [fillFrom, Act.put])
      ·clear hL
       have HR := hid hR
       clear hR
       go_wp2
       exact ⟨_, rfl, HR.out, Below.refl _ _, rfl⟩
      ·clear hL
       have HR := hid hR
       clear hR
       go_wp2
       exact ⟨_, rfl, HR.out, Below.refl _ _, rfl⟩
      ·generalize g 1 = y1 at hL ⊢
       obtain ⟨rfl, _⟩ := hL
       have HR := hid hR
       clear hR
       go_wp2
       exact ⟨_, rfl, HR.out, Below.refl _ _, rfl⟩
      ·clear hL
       have HR := hid hR
       clear hR
       go_wp2
       exact ⟨_, rfl, HR.out, Below.refl _ _, rfl⟩
      ·clear hL
       have HR := hid hR
       clear hR
       go_wp2
       exact ⟨_, rfl, HR.out, Below.refl _ _, rfl⟩
      ·generalize g 3 = y3 at hL ⊢
       generalize g 4 = y4 at hL ⊢
       obtain ⟨rfl, rfl, _⟩ := hL
       have HR := hid hR
       clear hR
       go_wp2
       exact ⟨_, rfl, HR.out, Below.refl _ _, rfl⟩
      ·generalize g 5 = y5 at hL ⊢
       obtain ⟨rfl, _⟩ := hL
       have HR := hid hR
       clear hR
       go_wp2
       exact ⟨_, rfl, HR.out, Below.refl _ _, rfl⟩
      ·clear hL
       have HR := hid hR
       clear hR
       go_wp2
       exact ⟨_, rfl, HR.out, Below.refl _ _, rfl⟩
      ·clear hL
       have HR := hid hR
       clear hR
       go_wp2
       exact ⟨_, rfl, HR.out, Below.refl _ _, rfl⟩
      ·generalize g 7 = y7 at hL ⊢
       generalize g 8 = y8 at hL ⊢
       obtain ⟨rfl, rfl, _⟩ := hL
       have HR := hid hR
       clear hR
       go_wp2
       exact ⟨_, rfl, HR.out, Below.refl _ _, rfl⟩
      ·clear hL
       have HR := hid hR
       clear hR
       go_wp2
       exact ⟨_, rfl, HR.out, Below.refl _ _, rfl⟩
      ·generalize g 10 = y10 at hL ⊢
       obtain ⟨rfl, _⟩ := hL
       have HR := hid hR
       clear hR
       go_wp2
       exact ⟨_, rfl, HR.out, Below.refl _ _, rfl⟩
      ·clear hL
       have HR := hid hR
       clear hR
       go_wp2
       exact ⟨_, rfl, HR.out, Below.refl _ _, rfl⟩
      ·generalize g 11 = y11 at hL ⊢
       generalize g 12 = y12 at hL ⊢
       obtain ⟨rfl, rfl, _⟩ := hL
       have HR := hid hR
       clear hR
       go_wp2
       exact ⟨_, rfl, HR.out, Below.refl _ _, HM1.out⟩
      ·generalize g 6 = y6 at hL ⊢
       generalize g 9 = y9 at hL ⊢
       generalize g 13 = y13 at hL ⊢
       obtain ⟨rfl, rfl, rfl, _⟩ := hL
       have HR := hid hR
       clear hR
       go_wp2
       have e9 : p1 - p0 = n := by have := HP01.out; omega
       first | exact ⟨_, rfl, HR.out, Below.refl _ _, by rw [e9]; rfl⟩ | exact ⟨HR.out, Below.refl _ _, by rw [e9]; rfl⟩ | trace_state
      ·clear hL
       have HR := hid hR
       clear hR
       go_wp2
       exact ⟨_, rfl, HR.out, Below.refl _ _, rfl⟩
      ·generalize g 2 = y2 at hL ⊢
       generalize g 14 = y14 at hL ⊢
       generalize g 15 = y15 at hL ⊢
       obtain ⟨rfl, rfl, rfl, _⟩ := hL
       have HR := hid hR
       clear hR
       have HCt := hid (HSum.out W HR.out.be)
       go_wp2_with fail
       refine HCt.out.mono ?_
       rintro e w1 ⟨v1, rfl, kv, kb⟩
       have KV := hid kv
       have KB := hid kb
       clear kv kb HCt
       go_wp2
       exact ⟨_, rfl, ⟨Nat.le_trans HR.out.base KB.out.size, HR.out.be.trans (KB.out.mono HR.out.base)⟩, KB.out, KV.out⟩
      ·generalize g 16 = y16 at hL ⊢
       obtain ⟨H16, _⟩ := hL
       have K16 := hid H16
       have HR := hid hR
       clear hR H16
       obtain ⟨bn', bd', dn', dd', rfl, g2, g3, g4, g5⟩ := K16.out.ex
       have HRow := hid (Row1.alloc g2 g3 g4 g5 37)
       have HBa := hid ((Below.refl W.heap.size W).alloc (Nat.le_refl _) (ratO s1 bn' dn' bd' dd' 37))
       clear g4 g5 K16
       go_wp2
       exact ⟨_, rfl, ⟨Nat.le_trans HR.out.base HBa.out.size, HR.out.be.trans (HBa.out.mono HR.out.base)⟩, HBa.out, HRow.out⟩
     ·intro ops g W hR hL
      have hB := hR.base
      have J0 := hL.1.1.1.1.1.1.1.1.1.1.1.1.1.1.1.1.1.2
      have J17 := hL.2
      simp only [GR, List.getElem?_cons_zero, List.getElem?_cons_succ] at J0 J17
      obtain ⟨f0, t0⟩ := HCe.out W hR.be
      clear hL
      simp only [List.take_succ_cons, List.take_zero, List.drop_succ_cons, List.drop_zero]
      simp [fillFrom, Act.put]
      generalize g 0 = y0 at J0 ⊢
      obtain rfl := J0
      generalize g 17 = y17 at J17 ⊢
      have HR := hid hR
      clear hR
      have HO := hid (HOut.out.below HR.out.be)
      have HJ := hid J17
      clear J17
      go_wp2_with (at_builtin; refine wpList_appR rfl (.tmp 197) (.tmp 214) 26 rfl Wx.heap.size Tryz.underlying26 Tryz.infoRat (.slice b0 m k0) m _ HLn.out rfl HO.out.own y17 s1 HJ.out rfl (by omega) HO.out.bl.size ?_; intro b3 k3 w3 hown hk3 hg hbe)
      have HOut3 := hid (show OutI Wx w3 (.slice b3 (m + 1) k3) ((flatQ (poolAt avgL n win x) T k (i + 1)).map ratL) from ⟨by rw [HStep.out]; exact hown, HO.out.bl.trans hbe⟩)
      clear hown hg hbe
      go_wp2
      go_roundw
      case rel => exact ⟨i + 1, m + 1, b3, k3, hi, by unfold Hid; have := HM.out; omega, rfl, by go_num, HOut3.out⟩
      case measure => simp [intOf]; omega
    ·obtain rfl : i = T := by omega
     go_wp2
     go_roundw
     case rel => exact ⟨k + 1, m, b0, k0, hlt, by unfold Hid; rw [Nat.succ_mul]; exact HM.out, rfl, by go_num, by rw [<- flatQ_next]; exact HOut.out⟩
     case measure => simp [intOf]; omega
  ·obtain rfl : k = C := by omega
   go_wp2
   have hmb : m <= 9223372036854775807 := by have := HM.out; have := HCT.out; omega
   have hNP : RowRet w ((flatQ (poolAt avgL n win x) T k 0).map ratL) (.returned (.slice b0 m k0)) wr := HOut.out.ret ((flatQ_len _ _ _ _).trans HM.out.symm) hmb HBx.out
   exact bodyPost_ret (v := .slice b0 m k0) (by simp [results, Tryz.results39, go_sem]) rfl hNP
end Go.Proofs.YtoppijdedkdjeaaGreat
