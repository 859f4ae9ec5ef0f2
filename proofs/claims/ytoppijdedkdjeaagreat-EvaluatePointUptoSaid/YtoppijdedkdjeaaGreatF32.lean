/-
  Contracts of the functions that the statement reaches: EvV, EvW, EvZ, PvB, EvX.
-/
import Derived.Test.YtoppijdedkdjeaaGreatF27
set_option linter.unusedVariables false
set_option linter.unusedSimpArgs false
set_option linter.constructorNameAsVariable false
set_option linter.deprecated false
set_option maxRecDepth 100000
set_option maxHeartbeats 3200000
namespace Go.Proofs.YtoppijdedkdjeaaGreat
open Go.RowKit
open Go.Lib (hid)
theorem RBox.grown {w w' : World} {g : Nat} {x : RatL} {v : Value} (h : RBox w g x) (hg : w.grownBy w' v.ownBlock) (hn : NoO w v) (hne : v.ownBlock ≠ some g) : RBox w' g x := by
 obtain ⟨⟨an, ad, cn, cd, ⟨c0, c1, c2, cf, clt⟩, h2, h3, h4, h5⟩, h6⟩ := h
 have hb : ∀ o, w'.cell? ⟨g, o, none⟩ = w.cell? ⟨g, o, none⟩ := fun o => World.cell?_of_block (hg.block g clt (fun e => hne e.symm))
 have hf : ∀ o, w'.frozen? ⟨g, o, none⟩ = w.frozen? ⟨g, o, none⟩ := fun o => World.frozen?_of_block (hg.block g clt (fun e => hne e.symm))
 exact ⟨⟨an, ad, cn, cd, ⟨(hb 0).trans c0, (hb 1).trans c1, (hb 2).trans c2, fun o => (hf o).trans (cf o), Nat.lt_of_lt_of_le clt hg.size⟩, h2, h3, h4.grown hg hn, h5.grown hg hn⟩, fun o u e => h6 o u ((hb o).symm.trans e)⟩
theorem wpList_appR2 {P : Program} {w : World} {ops : Array Oper} {rest : List Oper} {o : Oper} {a : Act} {Q : Exit -> Act -> World -> Prop} (hgd : o.guard = none) (s x : Operand) (t : TypeId)
  (ho : o.op = .call { callee := .builtin .append, args := #[s, x], argTypes := #[t, t] })
  (base : Nat) (ht : P.underlying t = some (.slice 37)) (hinfo : (P.info? 37).map (fun i => (i.zero, i.size, i.bytes)) = some (some (.agg #[.bool false, .slice none 0 0, .slice none 0 0]), 3, 56))
  (v : Value) (n : Nat) (L : List RatL) (hn : L.length = n) (hs : a.eval s = v) (hown : OwnR w base v L) (u : Value) (y : RatL) (hu : Row1 w u y)
  (hx : a.eval x = u) (hL : n + 1 <= 2000000000000) (hbase : base <= w.heap.size)
  (h : ∀ b k w', OwnR w' base (.slice b (n + 1) k) (L ++ [y]) -> n + 1 <= k -> w.grownBy w' v.ownBlock -> Below base w w' -> Next w v (.slice b (n + 1) k) -> wpList P ops Q rest (a.put o.dst (.slice b (n + 1) k)) w') :
  wpList P ops Q (o :: rest) a w := by
 subst hn
 refine wpList_plain hgd fun K hK => ?_
 obtain ⟨i, hi, hz, hsize, hby⟩ := info_parts hinfo
 obtain ⟨xs, hox, he⟩ := hown.ex
 obtain ⟨g, an, ad, cn, cd, rfl, hg, c0, c1, c2, h1, h2, h3, h4⟩ := hu.ex
 have hcells : ∀ (j : Nat) (u : Value), [Value.bool y.neg, .slice an y.num.length cn, .slice ad y.den.length cd][j]? = some u -> w.cell? (Addr.add ⟨g, 0, none⟩ j) = some u := by
  intro j u hj
  rw [Addr.add_lit]
  match j, hj with
  | 0, hj => rw [<- hj]; exact c0
  | 1, hj => rw [<- hj]; exact c1
  | 2, hj => rw [<- hj]; exact c2
 obtain ⟨v', w', hr, r2, r3, r4, r5⟩ := run_append_ni (P := P) w base t o.type _ i _ 3 56 ht hi hz hsize hby (by simp [Value.cells]) (by omega) v L.length xs hox ⟨g, 0, none⟩ 1 1
  [.bool y.neg, .slice an y.num.length cn, .slice ad y.den.length cd] rfl hcells
  (by intro u hu; simp at hu; rcases hu with rfl | rfl | rfl <;> rfl) (by omega) (by unfold maxLen; omega) (by omega) hbase
  hown.no (by intro u hu; simp at hu; rcases hu with rfl | rfl | rfl <;> rfl) (by intro u hu; simp [Value.cells] at hu; rcases hu with rfl | rfl <;> rfl)
 have hO := hown.app (x := y) (w' := w') (v' := v') (xs := xs) (an := an) (ad := ad) (cn := cn) (cd := cd) he hox.1 h1 h2 h3 h4 r2 r3 r5
 have hbe : Below base w w' := (Below.refl base w).grown r3 hbase (fun k hk => (hown.lt hk).1)
 obtain ⟨b, k, e, hk⟩ := own_form3 r2
 subst e
 unfold Oper.wp execOp
 simp only [ho, resolve, invoke, builtin, Sem.run_bind, Sem.run_pure, Result.andThen_ok, List.map_toArray, List.map_cons, List.map_nil, hs, hx, hr]
 exact hK _ _ (h b k w' hO hk r3 hbe r4)
structure OutC (W wr : World) (v : Value) (L : List RatL) (g : Nat) (u : RatL) : Prop where
 out : OutI W wr v L
 box : RBox wr g u
 ne : v.ownBlock ≠ some g
theorem OutC.below {W wr w' : World} {v : Value} {L : List RatL} {g : Nat} {u : RatL} (h : OutC W wr v L g u) (hb : Below wr.heap.size wr w') : OutC W w' v L g u := ⟨h.out.below hb, h.box.below hb, h.ne⟩
theorem OutC.start {W wr : World} {v : Value} {L : List RatL} (h : OutI W wr v L) {an ad : Option Addr} {cn cd : Nat} {u : RatL} (h2 : u.num.length <= cn) (h3 : u.den.length <= cd) (h4 : U32s wr an u.num) (h5 : U32s wr ad u.den) (T : Nat) :
  OutC W (wr.alloc (.cells #[.bool u.neg, .slice an u.num.length cn, .slice ad u.den.length cd] T)) v L wr.heap.size u :=
 ⟨h.below ((Below.refl _ _).alloc (Nat.le_refl _) _), RBox.alloc h2 h3 h4 h5 T, fun e => by have := (h.own.lt e).2; omega⟩
theorem OutC.app {W wr w' : World} {v v' : Value} {L L' : List RatL} {g : Nat} {u : RatL} (h : OutC W wr v L g u) (ho : OwnR w' W.heap.size v' L') (hg : wr.grownBy w' v.ownBlock) (hb : Below W.heap.size wr w') (hn : Next wr v v') : OutC W w' v' L' g u := by
 refine ⟨⟨ho, h.out.bl.trans hb⟩, h.box.grown hg h.out.own.no h.ne, ?_⟩
 rcases hn with e | ⟨k, e, hk⟩
 ·rw [e]; exact h.ne
 ·rw [e]
  intro e2
  cases e2
  have := h.box.lt
  omega
def convO (bs ws : List Rat) (n : Nat) (win : List (List Int)) (x : List Rat) (o i : Nat) : Rat := sumQ (bs.getD o 0) ws (o * n) (win.getD i []) x
theorem evConv {w : World} {S : StepV} {bs ws x : List Rat} {sh : List Int} {win : List (List Int)} {n T : Nat} {F : Nat -> Prop} (h1 : ws.length = S.n1) (h2 : bs.length = S.n2) (h3 : x.length = S.nx) (h4 : sh.length = S.nS)
  (hW : RatsAt w S.a1 (ws.map ratL)) (hB : RatsAt w S.a2 (bs.map ratL)) (hX : RatsAt w S.ax (x.map ratL)) (hS : Ints w F S.aS sh)
  (hwin : (windowsL sh S.kh S.kw S.st S.pd).1 = win) (hT : T = win.length) (hlen : ∀ ix ∈ win, ix.length = n) (hix : ∀ ix ∈ win, ∀ i ∈ ix, i < x.length)
  (hwl : S.n2 * n <= S.n1) (hN1 : S.n1 <= 1000000) (hN2 : S.n2 <= 1000000) (hNx : S.nx <= 1000000) (hn2 : n <= 1000000) (hT2 : T <= 1000000) (hOT : S.n2 * T <= 1000000)
  (hw1 : ∀ q ∈ ws, RatLe (ratL q) 1048575) (hx1 : ∀ q ∈ x, RatLe (ratL q) 1048575) (hp : ∀ p ∈ ws, ∀ q ∈ x, RatLe (ratL (p * q)) 524286)
  (hs : ∀ r, r < S.n2 -> ∀ ix ∈ win, ∀ k, k <= n -> RatLe (ratL (psum (bs.getD r 0) ws (r * n) ix x k)) 524286) :
  Calls Tryz.prog 64 #[S.val] w (RowRet w ((flatQ (convO bs ws n win x) T S.n2 0).map ratL)) := by
 have HW := hid hW
 have HBi := hid hB
 have HX := hid hX
 have H1 := hid h1
 have H2 := hid h2
 have H3 := hid h3
 have Hw1 := hid hw1
 have Hx1 := hid hx1
 have Hp := hid hp
 have Hs := hid hs
 have Hwl := hid hwl
 have HT := hid hT
 have HLen := hid hlen
 have HIx := hid hix
 have HOT := hid hOT
 have HSB := hid (SBox.alloc w S 70)
 have hB1 := ((Below.refl w.heap.size w).alloc (Nat.le_refl _) (.cells S.cells 70))
 have HWn := evWindows h4 (hS.below hB1)
 rw [hwin] at HWn
 have HWn := hid HWn
 have HB1 := hid hB1
 clear hW hB hX hw1 hx1 hp hs hwl h1 h2 h3 h4 hS hB1 hwin hT hlen hix hOT
 unfold StepV.val at HWn ⊢
 unfold StepV.cells at HSB HB1 HWn
 go_enter Tryz.func64, Tryz.ntmps64
 go_upto_region 1 with fail
 generalize w.alloc (.cells (stC S) 70) = W1 at *
 obtain ⟨f0, f1, f2, f3, f4, f5, f6, f7, f8, f9, f10, f11, f12, ff, lt⟩ := HSB.out
 go_wp2_with fail
 refine HWn.out.mono ?_
 rintro e Wx ⟨aw, cw, rfl, hI, hb⟩
 rw [<- HT.out]
 have HI := hid hI
 have HSx := hid (HSB.out.below hb)
 have HBx := hid (HB1.out.trans (hb.mono HB1.out.size))
 clear hI hb HWn HB1 HSB f0 f1 f2 f3 f4 f5 f6 f7 f8 f9 f10 f11 f12 ff lt
 have f8 := HSx.out.f8
 go_wp2
 clear f8
 go_loopw [3, 18] (fun v i wr => ∃ (r m : Nat) (a : Option Addr) (c : Nat), r <= S.n2 /\ Hid (m = r * T) /\ v = .slice a m c /\ i = .int .i64 (r : Int) /\ Hid (OutI Wx wr (.slice a m c) ((flatQ (convO bs ws n win x) T r 0).map ratL))) (fun _ i _ => S.n2 - (intOf i).toNat)
 case atStart => exact ⟨0, 0, none, 0, Nat.zero_le _, by unfold Hid; omega, rfl, rfl, OutI.start Wx⟩
 case round =>
  obtain ⟨r, m, b0, k0, hr, HM, rfl, rfl, HOut⟩ := hrel
  obtain ⟨wq, hwq⟩ : ∃ wq : World, wq = wr := ⟨_, rfl⟩
  subst hwq
  by_cases hlt : r < S.n2
  ·have hbr : Below w.heap.size w wq := HBx.out.trans (HOut.out.bl.mono HBx.out.size)
   obtain ⟨bb, ob, u, un, ud, ucn, ucd, hab, hbb, hu, uc0, uc1, uc2, huv⟩ := HBi.out.pick (k := r) (by rw [List.length_map, H2.out]; exact hlt)
   obtain ⟨hu1, hu2⟩ := map_get hu
   have uc0 := (hbr.cell (p := ⟨bb, ob + r * 3, none⟩) hbb).trans uc0
   have uc1 := (hbr.cell (p := ⟨bb, ob + r * 3 + 1, none⟩) hbb).trans uc1
   have uc2 := (hbr.cell (p := ⟨bb, ob + r * 3 + 2, none⟩) hbb).trans uc2
   obtain ⟨q2, q3, q4, q5⟩ := huv.parts
   have Hu2 := hid hu2
   have HOc0 := hid (OutC.start HOut.out q2 q3 (q4.below hbr) (q5.below hbr) 37)
   rw [hab]
   clear hu hu1 hu2 huv q4 q5 hbr hab
   go_upto_region 6 with fail
   generalize wq.alloc (ratO u un ucn ud ucd 37) = Wg at *
   clear uc0 uc1 uc2
   go_wp2
   go_loopw [3, 25] (fun v j wr => ∃ (i m : Nat) (a : Option Addr) (c : Nat), i <= T /\ Hid (m = r * T + i) /\ v = .slice a m c /\ j = .int .i64 (i : Int) /\ Hid (OutC Wx wr (.slice a m c) ((flatQ (convO bs ws n win x) T r i).map ratL) wq.heap.size u)) (fun _ j _ => T - (intOf j).toNat)
   case atStart => exact ⟨0, m, b0, k0, Nat.zero_le _, HM.out, rfl, rfl, HOc0.out⟩
   case round =>
    clear HM HOut HOc0
    obtain ⟨i, m, b0, k0, hi0, HM, rfl, rfl, HOc⟩ := hrel
    obtain ⟨wv, hwv⟩ : ∃ wv : World, wv = wr := ⟨_, rfl⟩
    subst hwv
    by_cases hi : i < T
    ·have hmT : m + 1 <= 1000000 := by
      have h1 : (r + 1) * T <= S.n2 * T := Nat.mul_le_mul_right _ hlt
      have h2 := HOT.out
      have h3 := HM.out
      rw [Nat.succ_mul] at h1
      omega
     obtain ⟨bt, ot, l, ai, ci, haw', tc0, hl, hlc, hIl, hbt, _⟩ := HI.out.pickc (k := i) (by have := HT.out; omega)
     have hmem := List.mem_of_getElem? hl
     have hln : l.length = n := HLen.out l hmem
     rw [hln] at tc0 hlc
     have tc0 := (HOc.out.out.bl.cell (p := ⟨bt, ot + i, none⟩) hbt).trans tc0
     have HIl := hid (hIl.below HOc.out.out.bl)
     have HMem := hid hmem
     have HLn := hid hln
     have hbt2 := Nat.lt_of_lt_of_le hbt HOc.out.out.bl.size
     have HGl : Hid (win.getD i [] = l) := by unfold Hid; rw [List.getD_eq_getElem?_getD, hl]; rfl
     obtain ⟨un, ud, ucn, ucd, ⟨c0, c1, c2, _, clt⟩, u2, u3, u4, u5⟩ := HOc.out.box.ex
     have HAc : Hid (AcI wv (wv.alloc (ratO u un ucn ud ucd 37)) wv.heap.size u) := ⟨RBox.alloc u2 u3 u4 u5 _, (Below.refl _ _).alloc (Nat.le_refl _) _, Nat.le_refl _⟩
     rw [haw']
     clear hl hIl hmem hln u4 u5
     go_upto_region 10 with fail
     generalize wv.alloc (ratO u un ucn ud ucd 37) = Wh at *
     clear c0 c1 c2 clt tc0
     go_wp2
     go_loopw [32] (fun i wi => ∃ k : Nat, k <= n /\ i = .int .i64 (k : Int) /\ Hid (AcI wv wi wv.heap.size (ratL (psum (bs.getD r 0) ws (r * n) l x k)))) (fun i _ => n - (intOf i).toNat)
     case atStart => exact ⟨0, Nat.zero_le _, rfl, by have h := HAc.out; rw [Hu2.out] at h; exact h⟩
     case round =>
      obtain ⟨k, hk, rfl, HIr⟩ := hrel
      have HBw := hid (HBx.out.trans ((HOc.out.out.bl.trans (HIr.out.bl.mono HOc.out.out.bl.size)).mono HBx.out.size))
      by_cases hlk : k < n
      ·obtain ⟨bi, oi, d, hai, ic, hd, _, hbi, _, hd1, hd2⟩ := HIl.out.pick2 (k := k) (by rw [HLn.out]; exact hlk)
       have hgd : l.getD k 0 = d := getD_of hd
       have ic := (HIr.out.bl.cell (p := ⟨bi, oi + k, none⟩) hbi).trans ic
       have hbi2 := Nat.lt_of_lt_of_le hbi HIr.out.bl.size
       by_cases h0 : 0 <= d
       ·obtain ⟨nn, rfl⟩ : ∃ nn : Nat, d = (nn : Int) := ⟨d.toNat, by omega⟩
        have hnx : nn < x.length := by
         have := HIx.out l HMem.out _ (List.mem_of_getElem? hd)
         omega
        obtain ⟨p0, hp0⟩ : ∃ p0, p0 = r * n := ⟨_, rfl⟩
        have hmul : p0 + k < S.n1 := by
         have e1 : (r + 1) * n <= S.n2 * n := Nat.mul_le_mul_right _ hlt
         have e2 := Hwl.out
         rw [Nat.succ_mul, <- hp0] at e1
         omega
        obtain ⟨bw, ow, v, vn, vd, vcn, vcd, haw, hbw, hv, wc0, wc1, wc2, hwv⟩ := HW.out.pick (k := p0 + k) (by rw [List.length_map, H1.out]; exact hmul)
        obtain ⟨bx, ox, y, yn, yd, ycn, ycd, hax, hbx, hyy, yc0, yc1, yc2, hyv⟩ := HX.out.pick (k := nn) (by rw [List.length_map]; exact hnx)
        have hnx2 : nn < S.nx := by rw [<- H3.out]; exact hnx
        obtain ⟨hv1, hv2⟩ := map_get hv
        obtain ⟨hy1, hy2⟩ := map_get hyy
        obtain ⟨s, hs⟩ : ∃ s, s = ratL (psum (bs.getD r 0) ws (r * n) l x k) := ⟨_, rfl⟩
        obtain ⟨s1, hs1⟩ : ∃ s1, s1 = ratL (psum (bs.getD r 0) ws (r * n) l x (k + 1)) := ⟨_, rfl⟩
        obtain ⟨pr, hpr⟩ : ∃ pr, pr = ratL (ratOf v * ratOf y) := ⟨_, rfl⟩
        have hq : ratL (ratOf s + ratOf pr) = s1 := by
         rw [hs, hpr, hs1, ratOf_ratL, ratOf_ratL, psum_step hgd, hv1, hy1, <- hp0]
        have hmem : ws.getD (p0 + k) 0 ∈ ws := by
         rw [List.getD_eq_getElem?_getD, List.getElem?_eq_getElem (by rw [H1.out]; exact hmul)]; exact List.getElem_mem _
        have hmex : x.getD nn 0 ∈ x := by
         rw [List.getD_eq_getElem?_getD, List.getElem?_eq_getElem hnx]; exact List.getElem_mem _
        have HI1 := HIr.out
        rw [<- hs] at HI1
        have HS1 := hid hs1
        have HI1 := hid HI1
        have HHs := hid hs
        have HHpr := hid hpr
        have HHv := hid (And.intro hv1 hv2)
        have HHy := hid (And.intro hy1 hy2)
        have HHq := hid hq
        have m0 : IntKind.i64.wrap ((r : Int) * (n : Int)) = (p0 : Int) := by
         rw [<- Int.natCast_mul, <- hp0]; exact IntWalk.i64_in _ (by omega)
        have hyv' := hid hyv
        have hwv' := hid hwv
        have q0 : decide ((0 : Int) <= (nn : Int)) = true := decide_eq_true (by omega)
        obtain ⟨sn, sd, scn, scd, hbxs, s2, s3, s4, s5⟩ := HI1.out.box.ex
        have HMul : Hid (∀ W, Below wr.heap.size wr W -> Calls Tryz.prog 101 #[.agg #[.bool v.neg, .slice vn v.num.length vcn, .slice vd v.den.length vcd], .agg #[.bool y.neg, .slice yn y.num.length ycn, .slice yd y.den.length ycd]] W (RetR W pr)) := fun W hb => by
         have hbw2 := HBw.out.trans (hb.mono HBw.out.size)
         rw [HHpr.out]
         exact rMul (hwv'.out.below hbw2) (hyv'.out.below hbw2) (by rw [HHv.out.2]; exact Hw1.out _ hmem) (by rw [HHy.out.2]; exact Hx1.out _ hmex)
        have HAdd : Hid (∀ W, Below wr.heap.size wr W -> ∀ z, RatV W z pr -> Calls Tryz.prog 100 #[.agg #[.bool s.neg, .slice sn s.num.length scn, .slice sd s.den.length scd], z] W (RetR W s1)) := fun W hb z hz => by
         have e1 : RatLe s 1048575 := (show RatLe s 524286 by rw [HHs.out]; exact Hs.out r hlt l HMem.out k (Nat.le_of_lt hlk)).mono (by omega)
         have e2 : RatLe pr 1048575 := (show RatLe pr 524286 by rw [HHpr.out, HHv.out.1, HHy.out.1]; exact Hp.out _ hmem _ hmex).mono (by omega)
         have h := rAdd (x := s) ⟨sn, sd, scn, scd, rfl, s2, s3, s4.below hb, s5.below hb⟩ hz e1 e2
         rw [HHq.out] at h
         exact h
        have HCe : Hid (∀ W, Below wr.heap.size wr W -> W.cell? ⟨wv.heap.size, 0, none⟩ = some (.bool s.neg) /\ W.cell? ⟨wv.heap.size, 1, none⟩ = some (.slice sn s.num.length scn) /\ W.cell? ⟨wv.heap.size, 2, none⟩ = some (.slice sd s.den.length scd) /\
          W.cell? ⟨w.heap.size, 7, none⟩ = some (.slice (some ⟨bw, ow, none⟩) S.n1 S.c1) /\ W.cell? ⟨w.heap.size, 10, none⟩ = some (.slice (some ⟨bx, ox, none⟩) S.nx S.cx) /\
          W.cell? ⟨bw, ow + (p0 + k) * 3, none⟩ = some (.bool v.neg) /\ W.cell? ⟨bw, ow + (p0 + k) * 3 + 1, none⟩ = some (.slice vn v.num.length vcn) /\ W.cell? ⟨bw, ow + (p0 + k) * 3 + 2, none⟩ = some (.slice vd v.den.length vcd) /\
          W.cell? ⟨bx, ox + nn * 3, none⟩ = some (.bool y.neg) /\ W.cell? ⟨bx, ox + nn * 3 + 1, none⟩ = some (.slice yn y.num.length ycn) /\ W.cell? ⟨bx, ox + nn * 3 + 2, none⟩ = some (.slice yd y.den.length ycd)) := fun W hb => by
         have hbw2 := HBw.out.trans (hb.mono HBw.out.size)
         have hS2 := (HSx.out.below (HOc.out.out.bl.trans (HIr.out.bl.mono HOc.out.out.bl.size))).below hb
         have g7 := hS2.f7
         have g10 := hS2.f10
         rw [haw] at g7
         rw [hax] at g10
         exact ⟨(hb.cell hbxs.lt).trans hbxs.c0, (hb.cell hbxs.lt).trans hbxs.c1, (hb.cell hbxs.lt).trans hbxs.c2, g7, g10, (hbw2.cell hbw).trans wc0, (hbw2.cell hbw).trans wc1, (hbw2.cell hbw).trans wc2,
          (hbw2.cell hbx).trans yc0, (hbw2.cell hbx).trans yc1, (hbw2.cell hbx).trans yc2⟩
        have hs0 := hbxs.lt
        rw [hax, haw, hai]
        clear hv1 hv2 hy1 hy2 hs hs1 hpr hq hv hyy hyv hwv hp0 hd hgd hai hax haw wc0 wc1 wc2 yc0 yc1 yc2 s4 s5 hbxs hmem hmex
        go_upto_region 14 with fail
        clear ic
        refine wp_region_slots_tail 19 (by kernel_rfl) (by kernel_rfl) (by kernel_rfl) (by kernel_rfl) (by decide) (From wr.heap.size wr) (fun w w' => Below w.heap.size w w') (GR [.val (.agg #[.bool s.neg, .slice sn s.num.length scn, .slice sd s.den.length scd]), .val (.pointer (some ⟨w.heap.size, 0, none⟩)), .val (.pointer (some ⟨w.heap.size, 7, none⟩)), .val (.slice (some ⟨bw, ow, none⟩) S.n1 S.c1), .val (.int .i64 (r : Int)), .val (.slice (some ⟨bi, oi, none⟩) n ci), .val (.int .i64 (n : Int)), .val (.int .i64 (p0 : Int)), .val (.int .i64 (k : Int)), .val (.int .i64 ((p0 : Int) + (k : Int))), .val (.pointer (some ⟨bw, ow + (p0 + k) * 3, none⟩)), .val (.agg #[.bool v.neg, .slice vn v.num.length vcn, .slice vd v.den.length vcd]), .val (.pointer (some ⟨w.heap.size, 10, none⟩)), .val (.slice (some ⟨bx, ox, none⟩) S.nx S.cx), .val (.int .i64 (nn : Int)), .val (.pointer (some ⟨bx, ox + nn * 3, none⟩)), .val (.agg #[.bool y.neg, .slice yn y.num.length ycn, .slice yd y.den.length ycd]), .rat pr, .rat s1]) (fun i v w w' h hb => GR_below h hb) (From.start (Nat.le_refl _)) ?_ ?_
        ·intro ops
         simp only [List.take_succ_cons, List.take_zero, Shows]
         refine ⟨?_, ?_, ?_, ?_, ?_, ?_, ?_, ?_, ?_, ?_, ?_, ?_, ?_, ?_, ?_, ?_, ?_, ?_, ?_, trivial⟩
         all_goals (intro g W hR hL; have hB := hR.base; obtain ⟨x0, x1, x2, f7, f10, wc0, wc1, wc2, yc0, yc1, yc2⟩ := HCe.out W hR.be; simp only [Laid, Region.binds, forall_const, Bool.false_eq_true, false_implies, GR, List.getElem?_cons_zero, List.getElem?_cons_succ] at hL; simp [fillFrom, Act.put])
         ·clear hL
          have HR := hid hR
          clear hR
          go_wp2
          exact ⟨_, rfl, HR.out, Below.refl _ _, rfl⟩
         ·clear hL
          have HR := hid hR
          clear hR
          go_wp2
          exact ⟨_, rfl, HR.out, Below.refl _ _, rfl⟩
         ·generalize g 1 = y1 at hL ⊢
          obtain ⟨rfl, _⟩ := hL
          have HR := hid hR
          clear hR
          go_wp2
          exact ⟨_, rfl, HR.out, Below.refl _ _, rfl⟩
         ·generalize g 2 = y2 at hL ⊢
          obtain ⟨rfl, _⟩ := hL
          have HR := hid hR
          clear hR
          go_wp2
          exact ⟨_, rfl, HR.out, Below.refl _ _, rfl⟩
         ·clear hL
          have HR := hid hR
          clear hR
          go_wp2
          exact ⟨_, rfl, HR.out, Below.refl _ _, rfl⟩
         ·clear hL
          have HR := hid hR
          clear hR
          go_wp2
          exact ⟨_, rfl, HR.out, Below.refl _ _, rfl⟩
         ·generalize g 5 = y5 at hL ⊢
          obtain ⟨rfl, _⟩ := hL
          have HR := hid hR
          clear hR
          go_wp2
          exact ⟨_, rfl, HR.out, Below.refl _ _, rfl⟩
         ·generalize g 4 = y4 at hL ⊢
          generalize g 6 = y6 at hL ⊢
          obtain ⟨rfl, rfl, _⟩ := hL
          have HR := hid hR
          clear hR
          go_wp2
          exact ⟨_, rfl, HR.out, Below.refl _ _, rfl⟩
         ·clear hL
          have HR := hid hR
          clear hR
          go_wp2
          exact ⟨_, rfl, HR.out, Below.refl _ _, rfl⟩
         ·generalize g 7 = y7 at hL ⊢
          generalize g 8 = y8 at hL ⊢
          obtain ⟨rfl, rfl, _⟩ := hL
          have HR := hid hR
          clear hR
          go_wp2
          exact ⟨_, rfl, HR.out, Below.refl _ _, rfl⟩
         ·generalize g 3 = y3 at hL ⊢
          generalize g 9 = y9 at hL ⊢
          obtain ⟨rfl, rfl, _⟩ := hL
          have HR := hid hR
          clear hR
          go_wp2
          exact ⟨_, rfl, HR.out, Below.refl _ _, rfl⟩
         ·generalize g 10 = y10 at hL ⊢
          obtain ⟨rfl, _⟩ := hL
          have HR := hid hR
          clear hR
          go_wp2
          exact ⟨_, rfl, HR.out, Below.refl _ _, rfl⟩
         ·clear hL
          have HR := hid hR
          clear hR
          go_wp2
          exact ⟨_, rfl, HR.out, Below.refl _ _, rfl⟩
         ·generalize g 12 = y12 at hL ⊢
          obtain ⟨rfl, _⟩ := hL
          have HR := hid hR
          clear hR
          go_wp2
          exact ⟨_, rfl, HR.out, Below.refl _ _, rfl⟩
         ·clear hL
          have HR := hid hR
          clear hR
          go_wp2
          exact ⟨_, rfl, HR.out, Below.refl _ _, rfl⟩
         ·generalize g 13 = y13 at hL ⊢
          generalize g 14 = y14 at hL ⊢
          obtain ⟨rfl, rfl, _⟩ := hL
          have HR := hid hR
          clear hR
          go_wp2
          exact ⟨_, rfl, HR.out, Below.refl _ _, rfl⟩
         ·generalize g 15 = y15 at hL ⊢
          obtain ⟨rfl, _⟩ := hL
          have HR := hid hR
          clear hR
          go_wp2
          exact ⟨_, rfl, HR.out, Below.refl _ _, rfl⟩
         ·generalize g 11 = y11 at hL ⊢
          generalize g 16 = y16 at hL ⊢
          obtain ⟨rfl, rfl, _⟩ := hL
          have HR := hid hR
          clear hR
          have HCt := hid (HMul.out W HR.out.be)
          go_wp2_with fail
          refine HCt.out.mono ?_
          rintro e w1 ⟨v1, rfl, kv, kb⟩
          have KV := hid kv
          have KB := hid kb
          clear kv kb HCt
          go_wp2
          exact ⟨_, rfl, ⟨Nat.le_trans HR.out.base KB.out.size, HR.out.be.trans (KB.out.mono HR.out.base)⟩, KB.out, KV.out⟩
         ·generalize g 0 = y0 at hL ⊢
          generalize g 17 = y17 at hL ⊢
          obtain ⟨rfl, H17, _, _⟩ := hL
          have K17 := hid H17
          have HR := hid hR
          clear hR H17
          have HCt := hid (HAdd.out W HR.out.be _ K17.out)
          go_wp2_with fail
          refine HCt.out.mono ?_
          rintro e w1 ⟨v1, rfl, kv, kb⟩
          have KV := hid kv
          have KB := hid kb
          clear kv kb HCt
          go_wp2
          exact ⟨_, rfl, ⟨Nat.le_trans HR.out.base KB.out.size, HR.out.be.trans (KB.out.mono HR.out.base)⟩, KB.out, KV.out⟩
        ·intro ops g W hR hL
         have hB := hR.base
         have J18 := hL.2
         simp only [GR, List.getElem?_cons_zero, List.getElem?_cons_succ] at J18
         obtain ⟨x0, x1, x2, f7, f10, wc0, wc1, wc2, yc0, yc1, yc2⟩ := HCe.out W hR.be
         clear hL
         simp only [List.take_succ_cons, List.take_zero, List.drop_succ_cons, List.drop_zero]
         simp [fillFrom, Act.put]
         generalize g 18 = y18 at J18 ⊢
         have HR := hid hR
         clear hR
         obtain ⟨bn', bd', dn', dd', rfl, g2, g3, g4, g5⟩ := J18.ex
         have HBe := hid (show Below wr.heap.size wr W from HR.out.be)
         have HBx2 := hid (HI1.out.box.below HBe.out)
         obtain ⟨_, _, _, _, ⟨_, _, _, zf, zlt⟩, _⟩ := HBx2.out.ex
         have HStep := hid (HI1.out.step HBe.out g2 g3 g4 g5)
         clear g4 g5 J18
         go_wp2
         go_roundw
         case rel => exact ⟨k + 1, hlk, by go_num, by rw [<- HS1.out]; exact HStep.out⟩
         case measure => simp [intOf]; omega
       ·have hsk : psum (bs.getD r 0) ws (r * n) l x (k + 1) = psum (bs.getD r 0) ws (r * n) l x k := psum_skip (by rw [hgd]; exact h0)
        have HStep : Hid (AcI wv wr wv.heap.size (ratL (psum (bs.getD r 0) ws (r * n) l x (k + 1)))) := by unfold Hid; rw [hsk]; exact HIr.out
        have q0 : decide (0 <= d) = false := decide_eq_false h0
        rw [hai]
        clear hd hgd hsk hai
        go_wp2
        go_roundw
        case rel => exact ⟨k + 1, hlk, by go_num, HStep.out⟩
        case measure => simp [intOf]; omega
      ·obtain rfl : k = n := by omega
       obtain ⟨s, hs⟩ : ∃ s, s = ratL (convO bs ws k win x r i) := ⟨_, rfl⟩
       have hbx : AcI wv wr wv.heap.size s := by
        have h := HIr.out
        rw [hs, show convO bs ws k win x r i = psum (bs.getD r 0) ws (r * k) l x k by unfold convO sumQ; rw [HGl.out, HLn.out]]
        exact h
       have HStep : Hid _ := flatQ_succ (convO bs ws k win x) T r i
       rw [<- hs] at HStep
       obtain ⟨sn, sd, scn, scd, ⟨x0, x1, x2, _, xlt⟩, s2, s3, s4, s5⟩ := hbx.box.ex
       have HRow := hid (Row1.alloc s2 s3 s4 s5 37)
       have HOw := hid ((HOc.out.below hbx.bl).below ((Below.refl wr.heap.size wr).alloc (Nat.le_refl _) (ratO s sn scn sd scd 37)))
       have HLf := hid ((flatQ_len (convO bs ws k win x) T r i).trans HM.out.symm)
       have HM1 : Hid (m + 1 = r * T + (i + 1)) := by have := HM.out; unfold Hid; omega
       clear hbx s4 s5 hs
       go_wp2_with (at_builtin; refine wpList_appR2 rfl (.tmp 59) (.tmp 61) 26 rfl Wx.heap.size Tryz.underlying26 Tryz.infoRat (.slice b0 m k0) m _ HLf.out rfl HOw.out.out.own _ s HRow.out rfl (by omega) HOw.out.out.bl.size ?_; intro b3 k3 w3 hown hk3 hg hbe hnx; have HOut3 := hid (show OutC Wx w3 (.slice b3 (m + 1) k3) ((flatQ (convO bs ws k win x) T r (i + 1)).map ratL) wq.heap.size u from by rw [HStep.out]; exact HOw.out.app hown hg hbe hnx); clear hown hg hbe hnx)
       go_roundw
       case rel => exact ⟨i + 1, m + 1, b3, k3, hi, HM1.out, rfl, by go_num, HOut3.out⟩
       case measure => simp [intOf]; omega
    ·obtain rfl : i = T := by omega
     have HOn : Hid (OutI Wx wv (.slice b0 m k0) ((flatQ (convO bs ws n win x) i (r + 1) 0).map ratL)) := by unfold Hid; rw [<- flatQ_next]; exact HOc.out.out
     have HM1 : Hid (m = (r + 1) * i) := by have := HM.out; unfold Hid; rw [Nat.succ_mul]; omega
     go_wp2
     go_roundw
     case rel => exact ⟨r + 1, m, b0, k0, hlt, HM1.out, rfl, by go_num, HOn.out⟩
     case measure => simp [intOf]; omega
  ·obtain rfl : r = S.n2 := by omega
   go_wp2
   have hNP : RowRet w ((flatQ (convO bs ws n win x) T S.n2 0).map ratL) (.returned (.slice b0 m k0)) wq := HOut.out.ret ((flatQ_len _ _ _ _).trans HM.out.symm) (by have := HOT.out; have := HM.out; omega) HBx.out
   exact bodyPost_ret (v := .slice b0 m k0) (by simp [results, Tryz.results64, go_sem]) rfl hNP
def AppPost (w : World) (base n : Nat) (L : List RatL) (e : Ending) (w' : World) : Prop := ∃ b k, e = .returned (.slice b n k) /\ n <= k /\ OwnR w' base (.slice b n k) L /\ Below base w w'
theorem evPool1 {w : World} {S : StepV} {g base n i : Nat} {a : Option Addr} {c : Nat} {x : List Rat} {L : List RatL} (hS : SBox w g S) (hX : RatsAt w S.ax (x.map ratL)) (h3 : x.length = S.nx) (hi : i < S.nx) (hN : S.nx <= 1000000)
  (hown : OwnR w base (.slice a n c) L) (hL : L.length = n) (hn : n <= 1000000) (hbase : base <= w.heap.size) :
  Calls Tryz.prog 104 #[.slice a n c, .int .i64 (i : Int), .pointer (some ⟨g, 0, none⟩)] w (AppPost w base (n + 1) (L ++ [ratL (x.getD i 0)])) := by
 obtain ⟨bx, ox, y, yn, yd, ycn, ycd, hax, hbx, hyy, yc0, yc1, yc2, hyv⟩ := hX.pick (k := i) (by rw [List.length_map, h3]; exact hi)
 obtain ⟨hy1, hy2⟩ := map_get hyy
 rw [<- hy2]
 obtain ⟨y2, y3, y4, y5⟩ := hyv.parts
 have f10 := hS.f10
 have lt := hS.lt
 rw [hax] at f10
 have HRow := hid (Row1.alloc y2 y3 y4 y5 37)
 have hal : Below w.heap.size w (w.alloc (ratO y yn ycn yd ycd 37)) := (Below.refl _ _).alloc (Nat.le_refl _) _
 have HOw := hid (hown.below hal)
 have HLn := hid hL
 have HAl := hid (hal.mono hbase)
 clear hS hX h3 hown hL hy1 hy2 hyy hyv y4 y5 hal hax
 go_enter Tryz.func104, Tryz.ntmps104
 go_wp2_with (at_builtin; refine wpList_appR2 rfl (.tmp 6) (.tmp 12) 26 rfl base Tryz.underlying26 Tryz.infoRat (.slice a n c) n _ HLn.out rfl HOw.out _ y HRow.out rfl (by omega) (Nat.le_trans hbase (by simp)) ?_; intro b3 k3 w3 hown hk3 hg hbe hnx; have HPost := hid (show AppPost w base (n + 1) (L ++ [y]) (.returned (.slice b3 (n + 1) k3)) w3 from ⟨b3, k3, rfl, hk3, hown, HAl.out.trans hbe⟩); clear hown hg hbe hnx)
 exact bodyPost_ret (v := .slice b3 (n + 1) k3) (by simp [results, Tryz.results104, go_sem]) rfl HPost.out
theorem valsQ_succ {ix : List Int} {x : List Rat} {k n : Nat} (hk : k < ix.length) (h : ix.getD k 0 = (n : Int)) : (valsQ (ix.take (k + 1)) x).map ratL = (valsQ (ix.take k) x).map ratL ++ [ratL (x.getD n 0)] := by
 have e : ix[k]? = some (n : Int) := by
  rw [List.getD_eq_getElem?_getD, List.getElem?_eq_getElem hk] at h
  rw [List.getElem?_eq_getElem hk]
  exact congrArg some h
 rw [List.take_add_one, e]
 simp [valsQ]
theorem evFoldI {w : World} {S : StepV} {g n : Nat} {ai : Option Addr} {ci : Nat} {x : List Rat} {ix : List Int} {F : Nat -> Prop} (hS : SBox w g S) (hX : RatsAt w S.ax (x.map ratL)) (h3 : x.length = S.nx) (hN : S.nx <= 1000000)
  (hI : Ints w F ai ix) (hl : ix.length = n) (hn : n <= 1000000) (hix : ∀ i ∈ ix, 0 <= i /\ i < x.length) :
  Calls Tryz.prog 103 #[.slice none 0 0, .slice ai n ci, .func (.func 104) #[] #[.pointer (some ⟨g, 0, none⟩)]] w (RowRet w ((valsQ ix x).map ratL)) := by
 have HS := hid hS
 have HX := hid hX
 have H3 := hid h3
 have HI := hid hI
 have HL := hid hl
 have HIx := hid hix
 clear hS hX h3 hI hl hix
 go_enter Tryz.func103, Tryz.ntmps103
 go_wp2
 go_loopw [0, 11] (fun v i wr => ∃ (k : Nat) (a : Option Addr) (c : Nat), k <= n /\ v = .slice a k c /\ i = .int .i64 (k : Int) /\ Hid (OutI w wr (.slice a k c) ((valsQ (ix.take k) x).map ratL))) (fun _ i _ => n - (intOf i).toNat)
 case atStart => exact ⟨0, none, 0, Nat.zero_le _, rfl, rfl, OutI.start w⟩
 case round =>
  obtain ⟨k, a, c, hk, rfl, rfl, HOut⟩ := hrel
  by_cases hlt : k < n
  ·obtain ⟨bi, oi, d, hai, ic, hd, _, hbi, _, hd1, hd2⟩ := HI.out.pick2 (k := k) (by rw [HL.out]; exact hlt)
   have hm := HIx.out d (List.mem_of_getElem? hd)
   obtain ⟨nn, rfl⟩ : ∃ nn : Nat, d = (nn : Int) := ⟨d.toNat, by omega⟩
   have ic := (HOut.out.bl.cell (p := ⟨bi, oi + k, none⟩) hbi).trans ic
   have hbi2 := Nat.lt_of_lt_of_le hbi HOut.out.bl.size
   have HV := hid (valsQ_succ (x := x) (by rw [HL.out]; exact hlt) (getD_of hd))
   have hnn : nn < S.nx := by have := H3.out; omega
   have hvl : ((valsQ (ix.take k) x).map ratL).length = k := by rw [List.length_map, valsQ_len, List.length_take, HL.out]; omega
   have hC := evPool1 (i := nn) (n := k) (HS.out.below HOut.out.bl) (HX.out.below HOut.out.bl) H3.out hnn hN HOut.out.own hvl (by omega) HOut.out.bl.size
   rw [<- HV.out] at hC
   have HC := hid hC
   clear hC hvl
   rw [hai]
   clear hd hm hai
   go_wp2_with fail
   refine HC.out.mono ?_
   rintro e w1 ⟨b, c', rfl, hc', hown, hb⟩
   have HO2 : Hid (OutI w w1 (.slice b (k + 1) c') ((valsQ (ix.take (k + 1)) x).map ratL)) := ⟨hown, HOut.out.bl.trans hb⟩
   clear hown hb HC
   go_wp2
   go_roundw
   case rel => exact ⟨k + 1, b, c', hlt, rfl, by go_num, HO2.out⟩
   case measure => simp [intOf]; omega
  ·obtain rfl : k = n := by omega
   have hNP : RowRet w ((valsQ ix x).map ratL) (.returned (.slice a k c)) wr := by
    have h := HOut.out
    rw [List.take_of_length_le (by rw [HL.out]; exact Nat.le_refl _)] at h
    exact h.ret (by simp [valsQ]; exact HL.out) (by omega) (Below.refl _ _)
   have HNP := hid hNP
   clear hNP
   go_wp2
   exact bodyPost_ret (v := .slice a k c) (by simp [results, Tryz.results103, go_sem]) rfl HNP.out
theorem evRelu1 {w : World} {base n : Nat} {a : Option Addr} {c : Nat} {v : Value} {q : Rat} {y : RatL} {L : List RatL} (hy : y = ratL q) (hv : RatV w v y) (hq : RatLe y 1048575)
  (hown : OwnR w base (.slice a n c) L) (hL : L.length = n) (hn : n <= 1000000) (hbase : base <= w.heap.size) :
  Calls Tryz.prog 74 #[.slice a n c, v] w (AppPost w base (n + 1) (L ++ [ratL (maxQ q 0)])) := by
 obtain ⟨RR, hRR⟩ : ∃ RR, RR = ratL (maxQ q 0) := ⟨_, rfl⟩
 rw [<- hRR]
 obtain ⟨yn, yd, ycn, ycd, rfl, y2, y3, y4, y5⟩ := hv.ex
 have hal : Below w.heap.size w (w.alloc (ratO y yn ycn yd ycd 37)) := (Below.refl _ _).alloc (Nat.le_refl _) _
 have HYb := hid (Box3.alloc w (.bool y.neg) (.slice yn y.num.length ycn) (.slice yd y.den.length ycd) 37)
 have HOw := hid (hown.below hal)
 have HLn := hid hL
 have HAl := hid hal
 have hz : RatV (w.alloc (ratO y yn ycn yd ycd 37)) (.agg #[.bool false, .slice none 0 0, .slice none 0 0]) (ratL 0) := by
  rw [ratL_zeroE]
  exact ⟨none, none, 0, 0, rfl, Nat.le_refl _, Nat.le_refl _, U32s.nil _ _, U32s.nil _ _⟩
 have hC := rMax (x := y) (y := ratL 0) (hv.below hal) hz (hq.mono (by omega)) ((show RatLe (ratL 0) 524285 from ratLe_zero).mono (by omega))
 rw [show ratL (maxQ (ratOf y) (ratOf (ratL 0))) = RR by rw [hRR, hy, ratOf_ratL, ratOf_ratL]] at hC
 have HC := hid hC
 clear hv hq hown hL hal hz hC y4 y5 hRR hy
 go_enter Tryz.func74, Tryz.ntmps74
 go_upto_region 1 with fail
 generalize w.alloc (ratO y yn ycn yd ycd 37) = W0 at *
 obtain ⟨x0, x1, x2, _, xlt⟩ := HYb.out
 go_wp2_with fail
 refine HC.out.mono ?_
 rintro e w1 ⟨v1, rfl, kv, kb⟩
 obtain ⟨bn', bd', dn', dd', rfl, g2, g3, g4, g5⟩ := kv.ex
 have HRow := hid (Row1.alloc g2 g3 g4 g5 37)
 have HB1 := hid ((HAl.out.trans (kb.mono HAl.out.size)).mono hbase)
 have hal1 : Below w1.heap.size w1 (w1.alloc (ratO RR bn' dn' bd' dd' 37)) := (Below.refl _ _).alloc (Nat.le_refl _) _
 have HOw1 := hid ((HOw.out.below kb).below hal1)
 have HAl1 := hid (HB1.out.trans (hal1.mono (Nat.le_trans hbase (HAl.out.trans (kb.mono HAl.out.size)).size)))
 have hbase1 := Nat.le_trans hbase HB1.out.size
 clear kv kb g4 g5 hal1 HC
 go_wp2_with (at_builtin; refine wpList_appR2 rfl (.tmp 5) (.tmp 9) 26 rfl base Tryz.underlying26 Tryz.infoRat (.slice a n c) n _ HLn.out rfl HOw1.out _ RR HRow.out rfl (by omega) (Nat.le_trans hbase1 (by simp)) ?_; intro b3 k3 w3 hown hk3 hg hbe hnx; have HPost := hid (show AppPost w base (n + 1) (L ++ [RR]) (.returned (.slice b3 (n + 1) k3)) w3 from ⟨b3, k3, rfl, hk3, hown, HAl1.out.trans hbe⟩); clear hown hg hbe hnx)
 exact bodyPost_ret (v := .slice b3 (n + 1) k3) (by simp [results, Tryz.results74, go_sem]) rfl HPost.out
theorem reluQ_succ {x : List Rat} {k : Nat} (hk : k < x.length) : (reluQ (x.take (k + 1))).map ratL = (reluQ (x.take k)).map ratL ++ [ratL (maxQ (x.getD k 0) 0)] := by
 rw [List.take_add_one, List.getD_eq_getElem?_getD, List.getElem?_eq_getElem hk]
 simp only [reluQ, List.map_append, Option.toList, List.map_cons, List.map_nil, Option.getD_some]
theorem evFoldR {w : World} {a : Option Addr} {c n : Nat} {x : List Rat} (hX : RatsAt w a (x.map ratL)) (hl : x.length = n) (hn : n <= 1000000) (hx1 : ∀ q ∈ x, RatLe (ratL q) 1048575) :
  Calls Tryz.prog 73 #[.slice none 0 0, .slice a n c, .func (.func 74) #[] #[]] w (RowRet w ((reluQ x).map ratL)) := by
 have HX := hid hX
 have HL := hid hl
 have Hx1 := hid hx1
 clear hX hl hx1
 go_enter Tryz.func73, Tryz.ntmps73
 go_wp2
 go_loopw [0, 11] (fun v i wr => ∃ (k : Nat) (a : Option Addr) (c : Nat), k <= n /\ v = .slice a k c /\ i = .int .i64 (k : Int) /\ Hid (OutI w wr (.slice a k c) ((reluQ (x.take k)).map ratL))) (fun _ i _ => n - (intOf i).toNat)
 case atStart => exact ⟨0, none, 0, Nat.zero_le _, rfl, rfl, OutI.start w⟩
 case round =>
  obtain ⟨k, a0, c0, hk, rfl, rfl, HOut⟩ := hrel
  by_cases hlt : k < n
  ·obtain ⟨bx, ox, y, yn, yd, ycn, ycd, hax, hbx, hyy, yc0, yc1, yc2, hyv⟩ := HX.out.pick (k := k) (by rw [List.length_map, HL.out]; exact hlt)
   obtain ⟨hy1, hy2⟩ := map_get hyy
   obtain ⟨y2, y3, y4, y5⟩ := hyv.parts
   have hmex : x.getD k 0 ∈ x := by
    rw [List.getD_eq_getElem?_getD, List.getElem?_eq_getElem (by rw [HL.out]; exact hlt)]; exact List.getElem_mem _
   have hbi := HOut.out.bl
   have hal : Below wr.heap.size wr (wr.alloc (ratO y yn ycn yd ycd 37)) := (Below.refl _ _).alloc (Nat.le_refl _) _
   have HO2 := hid (HOut.out.below hal)
   have HYb := hid (Box3.alloc wr (.bool y.neg) (.slice yn y.num.length ycn) (.slice yd y.den.length ycd) 37)
   have hvl : ((reluQ (x.take k)).map ratL).length = k := by simp [reluQ]; have := HL.out; omega
   have hyv2 := (hyv.below hbi).below hal
   have hC := evRelu1 (n := k) hy2 hyv2 (by rw [hy2]; exact Hx1.out _ hmex) HO2.out.own hvl (by omega) HO2.out.bl.size
   rw [<- reluQ_succ (by rw [HL.out]; exact hlt)] at hC
   have HC := hid hC
   have yc0 := (hbi.cell (p := ⟨bx, ox + k * 3, none⟩) hbx).trans yc0
   have yc1 := (hbi.cell (p := ⟨bx, ox + k * 3 + 1, none⟩) hbx).trans yc1
   have yc2 := (hbi.cell (p := ⟨bx, ox + k * 3 + 2, none⟩) hbx).trans yc2
   have hbx2 := Nat.lt_of_lt_of_le hbx hbi.size
   subst hax
   clear hyy hy1 hy2 hmex hbi hal hvl hyv2 hC hyv y4 y5
   go_upto_region 4 with fail
   generalize wr.alloc (ratO y yn ycn yd ycd 37) = wj at *
   obtain ⟨v0, v1, v2, _, vlt⟩ := HYb.out
   clear yc0 yc1 yc2
   go_wp2_with fail
   refine HC.out.mono ?_
   rintro e w1 ⟨b, c', rfl, hc', hown, hb⟩
   have HO3 : Hid (OutI w w1 (.slice b (k + 1) c') ((reluQ (x.take (k + 1))).map ratL)) := ⟨hown, HO2.out.bl.trans hb⟩
   clear hown hb HC
   go_wp2
   go_roundw
   case rel => exact ⟨k + 1, b, c', hlt, rfl, by go_num, HO3.out⟩
   case measure => simp [intOf]; omega
  ·obtain rfl : k = n := by omega
   have hNP : RowRet w ((reluQ x).map ratL) (.returned (.slice a0 k c0)) wr := by
    have h := HOut.out
    rw [List.take_of_length_le (by rw [HL.out]; exact Nat.le_refl _)] at h
    exact h.ret (by simp [reluQ]; exact HL.out) (by omega) (Below.refl _ _)
   have HNP := hid hNP
   clear hNP
   go_wp2
   exact bodyPost_ret (v := .slice a0 k c0) (by simp [results, Tryz.results73, go_sem]) rfl HNP.out
theorem evRelu {w : World} {S : StepV} {g : Nat} {x : List Rat} (hS : SBox w g S) (hX : RatsAt w S.ax (x.map ratL)) (h3 : x.length = S.nx) (hN : S.nx <= 1000000) (hx1 : ∀ q ∈ x, RatLe (ratL q) 1048575) :
  Calls Tryz.prog 72 #[.pointer (some ⟨g, 0, none⟩)] w (RowRet w ((reluQ x).map ratL)) := by
 have HC := hid (evFoldR (c := S.cx) hX h3 hN hx1)
 have f10 := hS.f10
 have lt := hS.lt
 have hln : ((reluQ x).map ratL).length = S.nx := by simp [reluQ]; exact h3
 have HLn := hid hln
 clear hS hX h3 hx1 hln
 go_enter Tryz.func72, Tryz.ntmps72
 go_wp2_with fail
 refine HC.out.mono ?_
 rintro e w1 ⟨b, c', rfl, hc', hR, hb⟩
 have HNP : Hid (RowRet w ((reluQ x).map ratL) (.returned (.slice b ((reluQ x).map ratL).length c')) w1) := ⟨b, c', rfl, hc', hR, hb⟩
 generalize ((reluQ x).map ratL).length = nn at *
 clear hc' hR hb HC
 go_wp2
 exact bodyPost_ret (v := .slice b nn c') (by simp [results, Tryz.results72, go_sem]) rfl HNP.out
theorem RatsAt.srcE {w : World} {a : Option Addr} {L : List RatL} (h : RatsAt w a L) : ∃ news, SrcOK w a L.length 3 news /\ ∀ (j : Nat) (x : RatL), L[j]? = some x -> ∃ (an ad : Option Addr) (cn cd : Nat), news[j * 3]? = some (.bool x.neg) /\ news[j * 3 + 1]? = some (.slice an x.num.length cn) /\ news[j * 3 + 2]? = some (.slice ad x.den.length cd) /\ RatV w (.agg #[.bool x.neg, .slice an x.num.length cn, .slice ad x.den.length cd]) x := by
 rcases h.row with rfl | ⟨b, off, rfl, hb, hc⟩
 ·exact ⟨[], ⟨rfl, by simp, fun h => absurd h (by simp)⟩, by simp⟩
 ·have hall : ∀ p, p < L.length * 3 -> ∃ u, w.cell? ⟨b, off + p, none⟩ = some u /\ u.oneCell' = true := by
   intro p hp
   have hj : p / 3 < L.length := by omega
   obtain ⟨an, ad, cn, cd, h0, h1, h2, _⟩ := hc (p / 3) _ (List.getElem?_eq_getElem hj)
   have hm : p % 3 = 0 ∨ p % 3 = 1 ∨ p % 3 = 2 := by omega
   rcases hm with hm | hm | hm
   ·rw [show off + p = off + p / 3 * 3 by omega]; exact ⟨_, h0, rfl⟩
   ·rw [show off + p = off + p / 3 * 3 + 1 by omega]; exact ⟨_, h1, rfl⟩
   ·rw [show off + p = off + p / 3 * 3 + 2 by omega]; exact ⟨_, h2, rfl⟩
  refine ⟨(List.range (L.length * 3)).map (fun p => (w.cell? ⟨b, off + p, none⟩).getD (.bool false)), ⟨by simp, ?_, fun _ => ⟨b, off, rfl, hb, ?_⟩⟩, ?_⟩
  ·intro u hu
   obtain ⟨p, hp, rfl⟩ := List.mem_map.1 hu
   obtain ⟨u', h1, h2⟩ := hall p (List.mem_range.1 hp)
   rw [h1]; exact h2
  ·intro j u hj
   rw [List.getElem?_map] at hj
   obtain ⟨p, hp, rfl⟩ := Option.map_eq_some_iff.1 hj
   have hpl := (List.getElem?_eq_some_iff.1 hp).1
   have hpe : p = j := by rw [List.getElem?_range (by simpa using hpl)] at hp; exact (Option.some.inj hp).symm
   subst hpe
   obtain ⟨u', h1, _⟩ := hall p (by simpa using hpl)
   rw [h1]; rfl
  ·intro j x hx
   have hj := (List.getElem?_eq_some_iff.1 hx).1
   obtain ⟨an, ad, cn, cd, h0, h1, h2, h3⟩ := hc j x hx
   refine ⟨an, ad, cn, cd, ?_, ?_, ?_, h3⟩
   ·rw [List.getElem?_map, List.getElem?_range (by omega)]; simp [h0]
   ·rw [List.getElem?_map, List.getElem?_range (by omega)]; simp only [Option.map_some, <- Nat.add_assoc, h1, Option.getD_some]
   ·rw [List.getElem?_map, List.getElem?_range (by omega)]; simp only [Option.map_some, <- Nat.add_assoc, h2, Option.getD_some]
theorem own_ratsE {w : World} {base T : Nat} {v : Value} {n : Nat} {L : List RatL} {news : List Value} (hown : w.ownsRow base T 3 v n news) (hL : L.length = n) (hl : n <= 9223372036854775807)
  (hn : ∀ (j : Nat) (x : RatL), L[j]? = some x -> ∃ (an ad : Option Addr) (cn cd : Nat), news[j * 3]? = some (.bool x.neg) /\ news[j * 3 + 1]? = some (.slice an x.num.length cn) /\ news[j * 3 + 2]? = some (.slice ad x.den.length cd) /\ RatV w (.agg #[.bool x.neg, .slice an x.num.length cn, .slice ad x.den.length cd]) x) :
  ∃ a c, v = .slice a L.length c /\ L.length <= c /\ RatsAt w a L := by
 subst hL
 rcases hown.2 with ⟨rfl, h0⟩ | ⟨g, cap, cur, e, hb, hg, hnc, hcm, hcs, htake⟩
 ·exact ⟨none, 0, by rw [h0], by omega, ⟨hl, .inl (List.eq_nil_of_length_eq_zero h0)⟩⟩
 ·subst e
  refine ⟨_, cap, rfl, hnc, ⟨hl, .inr ⟨g, 0, rfl, (Array.getElem?_eq_some_iff.1 hg).1, fun j x hj => ?_⟩⟩⟩
  obtain ⟨an, ad, cn, cd, h1, h2, h3, h4⟩ := hn j x hj
  have hc := hown.cells (g := g) rfl
  have k0 := hc _ _ h1
  have k1 := hc _ _ h2
  have k2 := hc _ _ h3
  simp only [Addr.add_lit] at k0 k1 k2
  exact ⟨an, ad, cn, cd, k0, k1, k2, h4⟩
theorem empty_newE (w : World) (T : Nat) : (w.alloc (.cells #[] T)).heap[w.heap.size]? = some (.cells #[] T (0, 0)) := by
 show (w.heap.push _)[w.heap.size]? = _
 rw [Array.getElem?_push, if_pos rfl]
theorem evSame {w : World} {S : StepV} {x : List Rat} (h3 : x.length = S.nx) (hX : RatsAt w S.ax (x.map ratL)) (hNx : S.nx <= 1000000) :
  Calls Tryz.prog 75 #[S.val] w (RowRet w (x.map ratL)) := by
 have HSB := hid (SBox.alloc w S 70)
 have HB1 := hid ((Below.refl w.heap.size w).alloc (Nat.le_refl _) (.cells S.cells 70))
 have HX := hid hX
 have H3 := hid h3
 clear h3 hX
 unfold StepV.val
 unfold StepV.cells at HSB HB1
 go_enter Tryz.func75, Tryz.ntmps75
 go_upto_region 1 with fail
 generalize w.alloc (.cells (stC S) 70) = W1 at *
 have f10 := HSB.out.f10
 have slt := HSB.out.lt
 obtain ⟨news, hsrc, hnews⟩ := (HX.out.below HB1.out).srcE
 rw [List.length_map, H3.out] at hsrc
 have hal : Below W1.heap.size W1 (W1.alloc (.cells #[] 37)) := (Below.refl _ _).alloc (Nat.le_refl _) _
 have HSrc := hid (hsrc.below hal)
 have HNw := hid hnews
 have HAl := hid hal
 have HEm : Hid ((W1.alloc (.cells #[] 37)).ownsRow W1.heap.size 37 3 (.slice (some ⟨W1.heap.size, 0, none⟩) 0 0) 0 []) := own_empty (empty_newE W1 _) (Nat.le_refl _)
 clear hsrc hnews hal
 go_wp2_with (at_builtin; refine wpList_append_src rfl (.tmp 3) (.tmp 5) 26 26 rfl W1.heap.size 37 (.agg #[.bool false, .slice none 0 0, .slice none 0 0]) 3 56 Tryz.underlying26 Tryz.underlying26 Tryz.infoRat rfl (by omega) _ 0 [] rfl HEm.out S.ax S.nx S.cx news rfl HSrc.out (by omega) (by unfold maxLen; omega) (by simp) ?_; intro v' w' hown hg hnx; have HOwn := hid hown; have HBg := hid (HAl.out.grown hg HAl.out.size (fun j hj => (HEm.out.lt j hj).1)); clear hown hg hnx)
 have hb2 := HB1.out.trans (HBg.out.mono HB1.out.size)
 have ho := HOwn.out
 rw [Nat.zero_add, List.nil_append] at ho
 obtain ⟨a, c, hv, hc, hR⟩ := own_ratsE (L := x.map ratL) ho (by rw [List.length_map]; exact H3.out) (by omega) (fun j z hj => by
  obtain ⟨an, ad, cn, cd, h1, h2, h3, h4⟩ := HNw.out j z hj
  exact ⟨an, ad, cn, cd, h1, h2, h3, h4.below (HBg.out)⟩)
 have HNP : Hid (RowRet w (x.map ratL) (.returned v') w') := ⟨a, c, by rw [hv], hc, hR, hb2⟩
 clear hb2 ho hv hc hR HOwn HBg
 exact bodyPost_ret (v := v') (by simp [results, Tryz.results75, go_sem]) rfl HNP.out
structure SmF (w wr : World) (q : RatL) : Prop where
 box : RBox wr w.heap.size q
 res : RNil wr (w.heap.size + 1)
 bl : Below w.heap.size w wr
theorem SmF.below {w wr W : World} {q : RatL} (h : SmF w wr q) (hb : Below wr.heap.size wr W) : SmF w W q := ⟨h.box.below hb, h.res.below hb, h.bl.trans (hb.mono h.bl.size)⟩
theorem SmF.step {w wr W : World} {q y : RatL} {bn bd : Option Addr} {dn dd : Nat} (h : SmF w wr q) (hb : Below wr.heap.size wr W)
  (g2 : y.num.length <= dn) (g3 : y.den.length <= dd) (g4 : U32s W bn y.num) (g5 : U32s W bd y.den) :
  SmF w (((W.setCell ⟨w.heap.size, 0, none⟩ (.bool y.neg)).setCell ⟨w.heap.size, 1, none⟩ (.slice bn y.num.length dn)).setCell ⟨w.heap.size, 2, none⟩ (.slice bd y.den.length dd)) y :=
 ⟨(h.box.below hb).store g2 g3 g4 g5, (h.res.below hb).far3 (by omega) _ _ _, keep_store3 (h.bl.trans (hb.mono h.bl.size)) _ _ _⟩
theorem evFoldMax {w : World} {v0 : Value} {a : Option Addr} {c n : Nat} {G : Nat -> Rat} {x : List Rat} (hv : RatV w v0 (ratL (G 0))) (hX : RatsAt w a (x.map ratL)) (hl : x.length = n) (hn : n <= 1000000)
  (hG : ∀ k, k < n -> G (k + 1) = maxQ (G k) (x.getD k 0)) (hb1 : ∀ k, k < n -> RatLe (ratL (G k)) 1048575) (hx1 : ∀ q ∈ x, RatLe (ratL q) 1048575) :
  Calls Tryz.prog 68 #[v0, .slice a n c, .func (.func 69) #[] #[]] w (RetR w (ratL (G n))) := by
 obtain ⟨an, ad, cn, cd, rfl, b2, b3, b4, b5⟩ := hv.ex
 have HX := hid hX
 have HL := hid hl
 have HG := hid hG
 have Hb1 := hid hb1
 have Hx1 := hid hx1
 obtain ⟨z, hz⟩ : ∃ z, z = ratL (G 0) := ⟨_, rfl⟩
 rw [<- hz] at b2 b3 b4 b5 ⊢
 have hst := fun (W : World) (o : Obj) => (Below.refl W.heap.size W).alloc (Nat.le_refl _) o
 have hSm : SmF w ((w.alloc (ratO z an cn ad cd 37)).alloc (zerO 37)) z := by
  refine ⟨(RBox.alloc b2 b3 b4 b5 _).below (hst _ _), ?_, (hst _ _).trans ((hst _ _).mono (by simp))⟩
  have := RNil.alloc (w.alloc (ratO z an cn ad cd 37)) 37
  simpa using this
 have HSm := hid hSm
 have HZ := hid hz
 clear hv hX hl hG hb1 hx1 hst hSm b4 b5 hz
 go_enter Tryz.func68, Tryz.ntmps68
 go_upto_region 1 with fail
 generalize (w.alloc (ratO z an cn ad cd 37)).alloc (zerO 37) = W0 at *
 go_wp2
 go_loopw [11] (fun i wr => ∃ k : Nat, k <= n /\ i = .int .i64 (k : Int) /\ Hid (SmF w wr (ratL (G k)))) (fun i _ => n - (intOf i).toNat)
 case atStart => exact ⟨0, Nat.zero_le _, rfl, by have h := HSm.out; rw [HZ.out] at h; exact h⟩
 case round =>
  obtain ⟨k, hk, rfl, HI⟩ := hrel
  by_cases hlt : k < n
  ·obtain ⟨bx, ox, y, yn, yd, ycn, ycd, hax, hbx, hyy, yc0, yc1, yc2, hyv⟩ := HX.out.pick (k := k) (by rw [List.length_map, HL.out]; exact hlt)
   obtain ⟨hy1, hy2⟩ := map_get hyy
   obtain ⟨s, hs⟩ : ∃ s, s = ratL (G k) := ⟨_, rfl⟩
   obtain ⟨s1, hs1⟩ : ∃ s1, s1 = ratL (G (k + 1)) := ⟨_, rfl⟩
   have hmex : x.getD k 0 ∈ x := by
    rw [List.getD_eq_getElem?_getD, List.getElem?_eq_getElem (by rw [HL.out]; exact hlt)]; exact List.getElem_mem _
   have hq : ratL (maxQ (ratOf s) (ratOf y)) = s1 := by rw [hs, hs1, ratOf_ratL, hy1, HG.out k hlt]
   have e1 : RatLe s 1048575 := by rw [hs]; exact Hb1.out k hlt
   have e2 : RatLe y 1048575 := by rw [hy2]; exact Hx1.out _ hmex
   have HI1 := HI.out
   rw [<- hs] at HI1
   obtain ⟨y2, y3, y4, y5⟩ := hyv.parts
   have hbi := HI1.bl
   have hal : Below wr.heap.size wr (wr.alloc (ratO y yn ycn yd ycd 37)) := (Below.refl _ _).alloc (Nat.le_refl _) _
   have HI2 := hid (HI1.below hal)
   have HYb := hid (Box3.alloc wr (.bool y.neg) (.slice yn y.num.length ycn) (.slice yd y.den.length ycd) 37)
   have HYv := hid ((hyv.below hbi).below hal)
   have yc0 := (hbi.cell (p := ⟨bx, ox + k * 3, none⟩) hbx).trans yc0
   have yc1 := (hbi.cell (p := ⟨bx, ox + k * 3 + 1, none⟩) hbx).trans yc1
   have yc2 := (hbi.cell (p := ⟨bx, ox + k * 3 + 2, none⟩) hbx).trans yc2
   have hbx2 := Nat.lt_of_lt_of_le hbx hbi.size
   have HE := hid (And.intro e1 e2)
   have HQ := hid hq
   have HS1 := hid hs1
   subst hax
   clear hyy hy1 hy2 hs hs1 hmex hq e1 e2 HI1 y4 y5 hbi hal hyv
   go_upto_region 4 with fail
   generalize wr.alloc (ratO y yn ycn yd ycd 37) = wj at *
   obtain ⟨sn, sd, scn, scd, ⟨x0, x1, x2, _, xlt⟩, s2, s3, s4, s5⟩ := HI2.out.box.ex
   obtain ⟨v0, v1, v2, _, vlt⟩ := HYb.out
   have hC := rMax (x := s) (y := y) (w := wj) ⟨sn, sd, scn, scd, rfl, s2, s3, s4, s5⟩ HYv.out (HE.out.1.mono (by omega)) (HE.out.2.mono (by omega))
   rw [HQ.out] at hC
   have HC := hid hC
   clear hC s4 s5 yc0 yc1 yc2
   go_wp2_with fail
   refine HC.out.mono ?_
   rintro e w1 ⟨u1, rfl, kv, kb⟩
   obtain ⟨bn', bd', dn', dd', rfl, g2, g3, g4, g5⟩ := kv.ex
   have HBx := hid (HI2.out.box.below kb)
   obtain ⟨_, _, _, _, ⟨_, _, _, zf, zlt⟩, _⟩ := HBx.out.ex
   have HStep := hid (HI2.out.step kb g2 g3 g4 g5)
   clear g4 g5 kv kb HC
   go_wp2
   go_roundw
   case rel => exact ⟨k + 1, hlt, by go_num, by rw [<- HS1.out]; exact HStep.out⟩
   case measure => simp [intOf]; omega
  ·obtain rfl : k = n := by omega
   obtain ⟨RR, hRR⟩ : ∃ RR, RR = ratL (G k) := ⟨_, rfl⟩
   have HI1 := HI.out
   rw [<- hRR] at HI1
   have HRR := hid hRR
   obtain ⟨sn, sd, scn, scd, ⟨x0, x1, x2, _, xlt⟩, s2, s3, s4, s5⟩ := HI1.box.ex
   obtain ⟨hS, hV⟩ := HI1.res.put s2 s3 s4 s5
   have HS := hid hS
   have HV := hid hV
   have HBl := hid (below_store3 HI1.bl (Nat.le_succ _) (.bool RR.neg) (.slice sn RR.num.length scn) (.slice sd RR.den.length scd))
   obtain ⟨y0, y1, y2, yf, ylt⟩ := HI1.res.c
   clear hRR HI1 hS hV s4 s5
   go_wp2
   obtain ⟨z0, z1, z2, zf, zlt⟩ := HS.out
   have hNP : RetR w RR (.returned (.agg #[.bool RR.neg, .slice sn RR.num.length scn, .slice sd RR.den.length scd])) (((wr.setCell ⟨w.heap.size + 1, 0, none⟩ (.bool RR.neg)).setCell ⟨w.heap.size + 1, 1, none⟩ (.slice sn RR.num.length scn)).setCell ⟨w.heap.size + 1, 2, none⟩ (.slice sd RR.den.length scd)) := ⟨_, rfl, HV.out, HBl.out⟩
   generalize ((wr.setCell ⟨w.heap.size + 1, 0, none⟩ (.bool RR.neg)).setCell ⟨w.heap.size + 1, 1, none⟩ (.slice sn RR.num.length scn)).setCell ⟨w.heap.size + 1, 2, none⟩ (.slice sd RR.den.length scd) = Y at *
   exact bodyPost_ret (v := .agg #[.bool RR.neg, .slice sn RR.num.length scn, .slice sd RR.den.length scd]) (by simp [results, Tryz.results68, go_sem, z0, z1, z2]) rfl (by rw [<- HRR.out]; exact hNP)
theorem evFoldAdd {w : World} {v0 : Value} {a : Option Addr} {c n : Nat} {G : Nat -> Rat} {x : List Rat} (hv : RatV w v0 (ratL (G 0))) (hX : RatsAt w a (x.map ratL)) (hl : x.length = n) (hn : n <= 1000000)
  (hG : ∀ k, k < n -> G (k + 1) = G k + x.getD k 0) (hb1 : ∀ k, k < n -> RatLe (ratL (G k)) 1048575) (hx1 : ∀ q ∈ x, RatLe (ratL q) 1048575) :
  Calls Tryz.prog 68 #[v0, .slice a n c, .func (.func 100) #[] #[]] w (RetR w (ratL (G n))) := by
 obtain ⟨an, ad, cn, cd, rfl, b2, b3, b4, b5⟩ := hv.ex
 have HX := hid hX
 have HL := hid hl
 have HG := hid hG
 have Hb1 := hid hb1
 have Hx1 := hid hx1
 obtain ⟨z, hz⟩ : ∃ z, z = ratL (G 0) := ⟨_, rfl⟩
 rw [<- hz] at b2 b3 b4 b5 ⊢
 have hst := fun (W : World) (o : Obj) => (Below.refl W.heap.size W).alloc (Nat.le_refl _) o
 have hSm : SmF w ((w.alloc (ratO z an cn ad cd 37)).alloc (zerO 37)) z := by
  refine ⟨(RBox.alloc b2 b3 b4 b5 _).below (hst _ _), ?_, (hst _ _).trans ((hst _ _).mono (by simp))⟩
  have := RNil.alloc (w.alloc (ratO z an cn ad cd 37)) 37
  simpa using this
 have HSm := hid hSm
 have HZ := hid hz
 clear hv hX hl hG hb1 hx1 hst hSm b4 b5 hz
 go_enter Tryz.func68, Tryz.ntmps68
 go_upto_region 1 with fail
 generalize (w.alloc (ratO z an cn ad cd 37)).alloc (zerO 37) = W0 at *
 go_wp2
 go_loopw [11] (fun i wr => ∃ k : Nat, k <= n /\ i = .int .i64 (k : Int) /\ Hid (SmF w wr (ratL (G k)))) (fun i _ => n - (intOf i).toNat)
 case atStart => exact ⟨0, Nat.zero_le _, rfl, by have h := HSm.out; rw [HZ.out] at h; exact h⟩
 case round =>
  obtain ⟨k, hk, rfl, HI⟩ := hrel
  by_cases hlt : k < n
  ·obtain ⟨bx, ox, y, yn, yd, ycn, ycd, hax, hbx, hyy, yc0, yc1, yc2, hyv⟩ := HX.out.pick (k := k) (by rw [List.length_map, HL.out]; exact hlt)
   obtain ⟨hy1, hy2⟩ := map_get hyy
   obtain ⟨s, hs⟩ : ∃ s, s = ratL (G k) := ⟨_, rfl⟩
   obtain ⟨s1, hs1⟩ : ∃ s1, s1 = ratL (G (k + 1)) := ⟨_, rfl⟩
   have hmex : x.getD k 0 ∈ x := by
    rw [List.getD_eq_getElem?_getD, List.getElem?_eq_getElem (by rw [HL.out]; exact hlt)]; exact List.getElem_mem _
   have hq : ratL (ratOf s + ratOf y) = s1 := by rw [hs, hs1, ratOf_ratL, hy1, HG.out k hlt]
   have e1 : RatLe s 1048575 := by rw [hs]; exact Hb1.out k hlt
   have e2 : RatLe y 1048575 := by rw [hy2]; exact Hx1.out _ hmex
   have HI1 := HI.out
   rw [<- hs] at HI1
   obtain ⟨y2, y3, y4, y5⟩ := hyv.parts
   have hbi := HI1.bl
   have hal : Below wr.heap.size wr (wr.alloc (ratO y yn ycn yd ycd 37)) := (Below.refl _ _).alloc (Nat.le_refl _) _
   have HI2 := hid (HI1.below hal)
   have HYb := hid (Box3.alloc wr (.bool y.neg) (.slice yn y.num.length ycn) (.slice yd y.den.length ycd) 37)
   have HYv := hid ((hyv.below hbi).below hal)
   have yc0 := (hbi.cell (p := ⟨bx, ox + k * 3, none⟩) hbx).trans yc0
   have yc1 := (hbi.cell (p := ⟨bx, ox + k * 3 + 1, none⟩) hbx).trans yc1
   have yc2 := (hbi.cell (p := ⟨bx, ox + k * 3 + 2, none⟩) hbx).trans yc2
   have hbx2 := Nat.lt_of_lt_of_le hbx hbi.size
   have HE := hid (And.intro e1 e2)
   have HQ := hid hq
   have HS1 := hid hs1
   subst hax
   clear hyy hy1 hy2 hs hs1 hmex hq e1 e2 HI1 y4 y5 hbi hal hyv
   go_upto_region 4 with fail
   generalize wr.alloc (ratO y yn ycn yd ycd 37) = wj at *
   obtain ⟨sn, sd, scn, scd, ⟨x0, x1, x2, _, xlt⟩, s2, s3, s4, s5⟩ := HI2.out.box.ex
   obtain ⟨v0, v1, v2, _, vlt⟩ := HYb.out
   have hC := rAdd (x := s) (y := y) (w := wj) ⟨sn, sd, scn, scd, rfl, s2, s3, s4, s5⟩ HYv.out (HE.out.1) (HE.out.2)
   rw [HQ.out] at hC
   have HC := hid hC
   clear hC s4 s5 yc0 yc1 yc2
   go_wp2_with fail
   refine HC.out.mono ?_
   rintro e w1 ⟨u1, rfl, kv, kb⟩
   obtain ⟨bn', bd', dn', dd', rfl, g2, g3, g4, g5⟩ := kv.ex
   have HBx := hid (HI2.out.box.below kb)
   obtain ⟨_, _, _, _, ⟨_, _, _, zf, zlt⟩, _⟩ := HBx.out.ex
   have HStep := hid (HI2.out.step kb g2 g3 g4 g5)
   clear g4 g5 kv kb HC
   go_wp2
   go_roundw
   case rel => exact ⟨k + 1, hlt, by go_num, by rw [<- HS1.out]; exact HStep.out⟩
   case measure => simp [intOf]; omega
  ·obtain rfl : k = n := by omega
   obtain ⟨RR, hRR⟩ : ∃ RR, RR = ratL (G k) := ⟨_, rfl⟩
   have HI1 := HI.out
   rw [<- hRR] at HI1
   have HRR := hid hRR
   obtain ⟨sn, sd, scn, scd, ⟨x0, x1, x2, _, xlt⟩, s2, s3, s4, s5⟩ := HI1.box.ex
   obtain ⟨hS, hV⟩ := HI1.res.put s2 s3 s4 s5
   have HS := hid hS
   have HV := hid hV
   have HBl := hid (below_store3 HI1.bl (Nat.le_succ _) (.bool RR.neg) (.slice sn RR.num.length scn) (.slice sd RR.den.length scd))
   obtain ⟨y0, y1, y2, yf, ylt⟩ := HI1.res.c
   clear hRR HI1 hS hV s4 s5
   go_wp2
   obtain ⟨z0, z1, z2, zf, zlt⟩ := HS.out
   have hNP : RetR w RR (.returned (.agg #[.bool RR.neg, .slice sn RR.num.length scn, .slice sd RR.den.length scd])) (((wr.setCell ⟨w.heap.size + 1, 0, none⟩ (.bool RR.neg)).setCell ⟨w.heap.size + 1, 1, none⟩ (.slice sn RR.num.length scn)).setCell ⟨w.heap.size + 1, 2, none⟩ (.slice sd RR.den.length scd)) := ⟨_, rfl, HV.out, HBl.out⟩
   generalize ((wr.setCell ⟨w.heap.size + 1, 0, none⟩ (.bool RR.neg)).setCell ⟨w.heap.size + 1, 1, none⟩ (.slice sn RR.num.length scn)).setCell ⟨w.heap.size + 1, 2, none⟩ (.slice sd RR.den.length scd) = Y at *
   exact bodyPost_ret (v := .agg #[.bool RR.neg, .slice sn RR.num.length scn, .slice sd RR.den.length scd]) (by simp [results, Tryz.results68, go_sem, z0, z1, z2]) rfl (by rw [<- HRR.out]; exact hNP)
end Go.Proofs.YtoppijdedkdjeaaGreat
