/-
  Contracts of the functions that the statement reaches: RefP, RefQ, RefR, RefS, RefT, RKB.
-/
import Derived.Test.YtfgmmghmmfmdgaaGreatK16
set_option linter.all false
set_option maxRecDepth 100000
set_option maxHeartbeats 3200000
namespace Go.Proofs.YtfgmmghmmfmdgaaGreat
open Go.RowKit
open Go.Lib (hid)
structure Fro (B:Nat) (W0 w:World):Prop where
 base:B<=w.heap.size
 be:Below B W0 w
theorem Fro.start {B:Nat} {W0:World} (h:B<=W0.heap.size):Fro B W0 W0.drew:=⟨h,(Below.refl _ _).drew⟩
theorem Fro.alloc {B:Nat} {W0 w:World} (h:Fro B W0 w) (o:Obj):Fro B W0 (w.alloc o):=⟨by have:=h.base;simp;omega,h.be.alloc h.base o⟩
def prG (ga gb:Nat) (neg:Bool) (vn vd:Value) (N dn kd B:Nat) (i:Nat) (v:Value) (w:World):Prop:=
 match i with
 | 0=>v=.pointer (some ⟨ga,0,none⟩)
 | 1=>v=.bool neg
 | 2=>v=.pointer (some ⟨ga,1,none⟩)
 | 3=>v=vn
 | 4=>v=.pointer (some ⟨gb,2,none⟩)
 | 5=>v=vd
 | 6=>∃ a c l,v=.slice a l.length c/\l.length<=c/\Hid (U32s w a l)/\Hid (lval l=dn)/\l.length<=kd
 | 7=>∃ a c,v=.slice a (limbs N).length c/\(limbs N).length<=c/\Hid (U32s w a (limbs N))
 | 8=>∃ a c,v=.agg #[.bool neg,.slice a (limbs N).length c]/\(limbs N).length<=c/\Hid (U32s w a (limbs N))
 | 9=>∃ g,B<=g/\v=.pointer (some ⟨g,0,none⟩)/\Box2 w g (.bool false) (.slice none 0 0)/\NoInt w g
 | _=>True
theorem prG_below {ga gb:Nat} {neg:Bool} {vn vd:Value} {N dn kd B i:Nat} {v:Value} {w w':World} (h:prG ga gb neg vn vd N dn kd B i v w) (hb:Below w.heap.size w w'):prG ga gb neg vn vd N dn kd B i v w':=by
 match i,h with
 | 0,h=>exact h
 | 1,h=>exact h
 | 2,h=>exact h
 | 3,h=>exact h
 | 4,h=>exact h
 | 5,h=>exact h
 | 6,⟨a,c,l,h1,h2,h3,h4,h5⟩=>exact ⟨a,c,l,h1,h2,h3.out.below hb,h4,h5⟩
 | 7,⟨a,c,h1,h2,h3⟩=>exact ⟨a,c,h1,h2,h3.out.below hb⟩
 | 8,⟨a,c,h1,h2,h3⟩=>exact ⟨a,c,h1,h2,h3.out.below hb⟩
 | 9,⟨g,h1,h2,h3,h4⟩=>exact ⟨g,h1,h2,h3.below hb,h4.below hb h3.lt⟩
 | _+10,_=>trivial
theorem TwoR.below {w W W':World} {g:Nat} {p q r s t u:Value} (h:TwoR w W g p q r s t u) (hb:Below W.heap.size W W'):TwoR w W' g p q r s t u:=
 ⟨h.a.below hb,h.b.below hb,h.c.below hb,h.nc.below hb h.c.lt,h.bl.trans (hb.mono (by have:=h.a.lt;omega))⟩
theorem Box2.store {w:World} {g:Nat} {p q:Value} (h:Box2 w g p q) (p' q':Value):Box2 ((w.setCell ⟨g,0,none⟩ p').setCell ⟨g,1,none⟩ q') g p' q':=by
 refine ⟨?_,?_,?_,?_⟩
 ·rw [World.cell?_setCell_other _ _ _ _ (by intro e;cases e)];exact World.cell?_setCell_same _ _ _ h.c0
 ·refine World.cell?_setCell_same _ _ _ (u:=q) ?_
  rw [World.cell?_setCell_other _ _ _ _ (by intro e;cases e)];exact h.c1
 ·intro o;simp [World.frozen?_setCell,h.free]
 ·simpa using h.lt
theorem U32s.store2 {w:World} {g:Nat} {a:Option Addr} {l:List Nat} (h:U32s w a l) (hN:NoInt w g) (b:Bool) (x:Option Addr) (n c:Nat):U32s ((w.setCell ⟨g,0,none⟩ (.bool b)).setCell ⟨g,1,none⟩ (.slice x n c)) a l:=
 (h.setCell hN _ _).setCell (hN.setCell _ _ (by simp)) _ _
theorem sgn_of_int (z:Int):sgn (decide (z < 0)) z.natAbs=z:=by
 unfold sgn
 by_cases h:z < 0
 ·rw [decide_eq_true h];simp;omega
 ·rw [decide_eq_false h];simp;omega
theorem underLen (d:List Nat) (h:Lim d):(limbs (underN d)).length<=d.length+1:=by
 unfold underN
 split
 ·rw [limbs_one];simp
 ·have:=limbs_len_of_lval h;omega
theorem S4_keep {w W w1:World} {gs g:Nat} {p q a b c d e f:Value} (h:Box2 W gs p q) (hF:TwoR w W g a b c d e f) (hb:Below W.heap.size W w1):
  w1.cell? ⟨gs,0,none⟩=some p/\w1.cell? ⟨gs,1,none⟩=some q/\w1.cell? ⟨g,2,none⟩=some c/\w1.cell? ⟨g+1,2,none⟩=some f:=
 ⟨(hb.cell h.lt).trans h.c0,(hb.cell h.lt).trans h.c1,(hb.cell hF.a.lt).trans hF.a.c2,(hb.cell hF.b.lt).trans hF.b.c2⟩
theorem S4_store {w W w1:World} {gs g:Nat} {p q a b c d e f:Value} (h:Box2 W gs p q) (hF:TwoR w W g a b c d e f) (hb:Below W.heap.size W w1) (hne:g+1+1 < gs) (x y z:Value):
  (((w1.setCell ⟨g+1+1,0,none⟩ x).setCell ⟨g+1+1,1,none⟩ y).setCell ⟨g+1+1,2,none⟩ z).cell? ⟨gs,0,none⟩=some p/\(((w1.setCell ⟨g+1+1,0,none⟩ x).setCell ⟨g+1+1,1,none⟩ y).setCell ⟨g+1+1,2,none⟩ z).cell? ⟨gs,1,none⟩=some q/\
  (((w1.setCell ⟨g+1+1,0,none⟩ x).setCell ⟨g+1+1,1,none⟩ y).setCell ⟨g+1+1,2,none⟩ z).cell? ⟨g,2,none⟩=some c/\(((w1.setCell ⟨g+1+1,0,none⟩ x).setCell ⟨g+1+1,1,none⟩ y).setCell ⟨g+1+1,2,none⟩ z).cell? ⟨g+1,2,none⟩=some f:=by
 obtain ⟨h1,h2,h3,h4⟩:=S4_keep h hF hb
 refine ⟨?_,?_,?_,?_⟩ <;> rw [far2 (by omega),far2 (by omega),far2 (by omega)] <;> assumption
theorem r3Add {w:World} {v u:Value} {x y:RatL} (hv:RatV w v x) (hu:RatV w u y) (hx:RatLe x 524286) (hy:RatLe y 524286):
  Calls Tryz.prog 78 #[v,u] w (RetR w (ratL (ratOf x+ratOf y))):=by
 obtain ⟨an,ad,cn,cd,rfl,a2,a3,a4,a5⟩:=hv.ex;obtain ⟨bn,bd,dn,dd,rfl,b2,b3,b4,b5⟩:=hu.ex;obtain ⟨hx1,hx2⟩:=hx;obtain ⟨hy1,hy2⟩:=hy;have hl1:=a4.len;have hl2:=a5.len;have hl3:=b4.len;have hl4:=b5.len;obtain ⟨A4,A5,B4,B5,HNUMx,HDENx⟩:=hd6 a4 a5 b4 b5 a4.lim a5.lim;obtain ⟨HNUMy,HDENy⟩:=hd2 b4.lim b5.lim;clear hv hu a4 a5 b4 b5
 go_enter Tryz.func78,Tryz.ntmps78
 go_upto_region 1 with fail
 have hF:=TwoR.mk' w (.bool x.neg) (.slice an x.num.length cn) (.slice ad x.den.length cd) (.bool y.neg) (.slice bn y.num.length dn) (.slice bd y.den.length dd) 51;generalize ((w.alloc (ratO x an cn ad cd 51)).alloc (ratO y bn dn bd dd 51)).alloc (zerO 51)=W at *;obtain ⟨HF,HA4,HA5,HB4,HB5⟩:=hd5 hF (A4.out.below hF.bl) (A5.out.below hF.bl) (B4.out.below hF.bl) (B5.out.below hF.bl);clear hF A4 A5 B4 B5
 refine wp_region_slots_lit (by kernel_rfl) (by kernel_rfl) (by kernel_rfl) (by kernel_rfl) (by kernel_rfl) (Fro W.heap.size W) (fun w w'=>Below w.heap.size w w') (prG (w.heap.size) (w.heap.size+1) x.neg (.slice an x.num.length cn) (.slice bd y.den.length dd) (lval x.num * underN y.den) (underN y.den) (y.den.length+1) W.heap.size) (fun i v w w' h hb=>prG_below h hb) (Fro.start (Nat.le_refl _)) ?_ ?_
 ·intro ops;simp only [List.dropLast,Shows]
  refine ⟨?v0,?v1,?v2,?v3,?v4,?v5,?_,?_,?_,?_,trivial⟩
  all_goals (intro g V hR hL;have hB:=hR.base;obtain ⟨q0,q1,q2,q3,q4,q5⟩:=S33_keep HF.out.a HF.out.b HF.out.a.lt HF.out.b.lt hR.be;simp only [Laid,Region.binds,forall_const,Bool.false_eq_true,false_implies,prG] at hL;simp [fillFrom,Act.put])
  case v0|v1|v2|v3|v4|v5=>
   try simp only [hL]
   clear hL;have HR:=hid hR;clear hR;go_wp2;exact ⟨_,rfl,HR.out,Below.refl _ _,rfl⟩
  ·try simp only [hL]
   clear hL;have HR:=hid hR;clear hR
   go_wp2_with fail
   refine (r3one dd b3 (HB5.out.below HR.out.be) (by omega)).mono ?_
   rintro e w1 ⟨a1,c1,l1,rfl,p1,p2,p3,p4,p5⟩;obtain ⟨HP2,HP3,HP5⟩:=hd3 p2 p3 p5;clear p2 p3 p5 q0 q1 q2 q3 q4 q5;go_wp2;exact ⟨_,rfl,⟨Nat.le_trans hB HP5.out.size,HR.out.be.trans (HP5.out.mono hB)⟩,HP5.out,a1,c1,l1,rfl,p1,HP2,HP3,p4⟩
  ·generalize g 3=y3 at hL ⊢;generalize g 6=y6 at hL ⊢;obtain ⟨rfl,⟨a1,c1,l1,rfl,p1,HP2,HP3,p4⟩,_,_⟩:=hL;have HR:=hid hR;clear hR
   go_wp2_with fail
   refine (r1Mul cn c1 (HA4.out.below HR.out.be) HP2.out rfl HP3.out (by omega)).mono ?_
   rintro e w1 ⟨a2,c2,rfl,g1,g2,g3,_⟩;obtain ⟨HG2,HG3⟩:=hd2 g2 g3;clear g2 g3 q0 q1 q2 q3 q4 q5;go_wp2;exact ⟨_,rfl,⟨Nat.le_trans hB HG3.out.size,HR.out.be.trans (HG3.out.mono hB)⟩,HG3.out,a2,c2,rfl,g1,HG2⟩
  ·generalize g 1=y1 at hL ⊢;generalize g 7=y7 at hL ⊢;obtain ⟨rfl,⟨a2,c2,rfl,g1,HG2⟩,_⟩:=hL;have HR:=hid hR;clear hR;go_wp2;exact ⟨_,rfl,HR.out,Below.refl _ _,a2,c2,rfl,g1,HG2⟩
  ·try simp only [hL]
   clear hL;have HR:=hid hR;clear hR;go_wp2;exact ⟨_,rfl,HR.out.alloc _,(Below.refl V.heap.size V).alloc (Nat.le_refl _) _,V.heap.size,hB,rfl,Box2.alloc _ _ _ _,NoInt.alloc V _ _ (by simp)⟩
 intro ops g W1 hR hL;simp only [List.dropLast,List.getLastD_cons,List.getLastD_nil,fillFrom,Act.put,List.length_cons,List.length_nil,Nat.reduceAdd,LaidAll] at hL ⊢;have hB1:=hR.base;have HV:=hL.1.2;have HP:=hL.2;simp only [prG] at HV HP;clear hL;generalize g 8=yv at HV ⊢;generalize g 9=yp at HP ⊢;obtain ⟨ak1,ck1,rfl,g11,HG21⟩:=HV;obtain ⟨gp1,hgp1,rfl,hbx,hno⟩:=HP;obtain ⟨HBX1,HNO1⟩:=hd2 hbx hno;obtain ⟨e0,e1,ef,elt⟩:=hbx;have HR1:=hid hR;clear hR hno
 go_upto_region 2 with fail
 have hbw:=below_store2 (p:=.bool x.neg) (q:=.slice ak1 (limbs (lval x.num * underN y.den)).length ck1) HR1.out.be hgp1;have HBX1':=HBX1.out.store (.bool x.neg) (.slice ak1 (limbs (lval x.num * underN y.den)).length ck1);have hu1:=HG21.out.store2 HNO1.out x.neg ak1 (limbs (lval x.num * underN y.den)).length ck1;generalize (W1.setCell ⟨gp1,0,none⟩ (.bool x.neg)).setCell ⟨gp1,1,none⟩ (.slice ak1 (limbs (lval x.num * underN y.den)).length ck1)=W2 at *;obtain ⟨HX2,HU2,HF2,HA52,HB42,HB52⟩:=hd6 HBX1' hu1 (HF.out.below hbw) (HA5.out.below hbw) (HB4.out.below hbw) (HB5.out.below hbw);clear hbw HBX1' hu1 HBX1 HNO1 HR1 HG21 e0 e1 ef elt HA5 HB4 HB5 HA4 HF hgp1 hB1
 refine wp_region_slots_lit (by kernel_rfl) (by kernel_rfl) (by kernel_rfl) (by kernel_rfl) (by kernel_rfl) (Fro W2.heap.size W2) (fun w w'=>Below w.heap.size w w') (prG (w.heap.size+1) (w.heap.size) y.neg (.slice bn y.num.length dn) (.slice ad x.den.length cd) (lval y.num * underN x.den) (underN x.den) (x.den.length+1) W2.heap.size) (fun i v w w' h hb=>prG_below h hb) (Fro.start (Nat.le_refl _)) ?_ ?_
 ·intro ops;simp only [List.dropLast,Shows]
  refine ⟨?v0,?v1,?v2,?v3,?v4,?v5,?_,?_,?_,?_,trivial⟩
  all_goals (intro g V hR hL;have hB:=hR.base;obtain ⟨q0,q1,q2,q3,q4,q5⟩:=S33_keep HF2.out.a HF2.out.b HF2.out.a.lt HF2.out.b.lt hR.be;simp only [Laid,Region.binds,forall_const,Bool.false_eq_true,false_implies,prG] at hL;simp [fillFrom,Act.put])
  case v0|v1|v2|v3|v4|v5=>
   try simp only [hL]
   clear hL;have HR:=hid hR;clear hR;go_wp2;exact ⟨_,rfl,HR.out,Below.refl _ _,rfl⟩
  ·try simp only [hL]
   clear hL;have HR:=hid hR;clear hR
   go_wp2_with fail
   refine (r3one cd a3 (HA52.out.below HR.out.be) (by omega)).mono ?_
   rintro e w1 ⟨a1,c1,l1,rfl,p1,p2,p3,p4,p5⟩;obtain ⟨HP2,HP3,HP5⟩:=hd3 p2 p3 p5;clear p2 p3 p5 q0 q1 q2 q3 q4 q5;go_wp2;exact ⟨_,rfl,⟨Nat.le_trans hB HP5.out.size,HR.out.be.trans (HP5.out.mono hB)⟩,HP5.out,a1,c1,l1,rfl,p1,HP2,HP3,p4⟩
  ·generalize g 3=y3 at hL ⊢;generalize g 6=y6 at hL ⊢;obtain ⟨rfl,⟨a1,c1,l1,rfl,p1,HP2,HP3,p4⟩,_,_⟩:=hL;have HR:=hid hR;clear hR
   go_wp2_with fail
   refine (r1Mul dn c1 (HB42.out.below HR.out.be) HP2.out rfl HP3.out (by omega)).mono ?_
   rintro e w1 ⟨a2,c2,rfl,g1,g2,g3,_⟩;obtain ⟨HG2,HG3⟩:=hd2 g2 g3;clear g2 g3 q0 q1 q2 q3 q4 q5;go_wp2;exact ⟨_,rfl,⟨Nat.le_trans hB HG3.out.size,HR.out.be.trans (HG3.out.mono hB)⟩,HG3.out,a2,c2,rfl,g1,HG2⟩
  ·generalize g 1=y1 at hL ⊢;generalize g 7=y7 at hL ⊢;obtain ⟨rfl,⟨a2,c2,rfl,g1,HG2⟩,_⟩:=hL;have HR:=hid hR;clear hR;go_wp2;exact ⟨_,rfl,HR.out,Below.refl _ _,a2,c2,rfl,g1,HG2⟩
  ·try simp only [hL]
   clear hL;have HR:=hid hR;clear hR;go_wp2;exact ⟨_,rfl,HR.out.alloc _,(Below.refl V.heap.size V).alloc (Nat.le_refl _) _,V.heap.size,hB,rfl,Box2.alloc _ _ _ _,NoInt.alloc V _ _ (by simp)⟩
 intro ops g W3 hR hL;simp only [List.dropLast,List.getLastD_cons,List.getLastD_nil,fillFrom,Act.put,List.length_cons,List.length_nil,Nat.reduceAdd,LaidAll] at hL ⊢;have hB2:=hR.base;have HV:=hL.1.2;have HP:=hL.2;simp only [prG] at HV HP;clear hL;generalize g 8=yv at HV ⊢;generalize g 9=yp at HP ⊢;obtain ⟨ak2,ck2,rfl,g12,HG22⟩:=HV;obtain ⟨gp2,hgp2,rfl,hbx,hno⟩:=HP;obtain ⟨HBX2,HNO2⟩:=hd2 hbx hno;obtain ⟨e0,e1,ef,elt⟩:=hbx;have HR2:=hid hR;clear hR hno
 go_upto_region 3 with fail
 have hbw:=below_store2 (p:=.bool y.neg) (q:=.slice ak2 (limbs (lval y.num * underN x.den)).length ck2) HR2.out.be hgp2;have hb2:=HBX2.out.store (.bool y.neg) (.slice ak2 (limbs (lval y.num * underN x.den)).length ck2);have hu2:=HG22.out.store2 HNO2.out y.neg ak2 (limbs (lval y.num * underN x.den)).length ck2;generalize (W3.setCell ⟨gp2,0,none⟩ (.bool y.neg)).setCell ⟨gp2,1,none⟩ (.slice ak2 (limbs (lval y.num * underN x.den)).length ck2)=W4 at *;obtain ⟨x0,x1,_,xlt⟩:=HX2.out.below hbw;obtain ⟨y0,y1,_,ylt⟩:=hb2;obtain ⟨HF4,HA54,HB54⟩:=hd3 (HF2.out.below hbw) (HA52.out.below hbw) (HB52.out.below hbw);have hi1:IntV W4 (.agg #[.bool x.neg,.slice ak1 (limbs (lval x.num * underN y.den)).length ck1]) x.neg (lval x.num * underN y.den) (limbs (lval x.num * underN y.den)).length:=⟨ak1,ck1,_,rfl,g11,HU2.out.below hbw,lval_limbs _,Nat.le_refl _⟩
 have hi2:IntV W4 (.agg #[.bool y.neg,.slice ak2 (limbs (lval y.num * underN x.den)).length ck2]) y.neg (lval y.num * underN x.den) (limbs (lval y.num * underN x.den)).length:=⟨ak2,ck2,_,rfl,g12,hu2,lval_limbs _,Nat.le_refl _⟩
 have hl1:(limbs (lval x.num * underN y.den)).length<=1048575:=Nat.le_trans (mul_len rfl (lval_limbs _) (Nat.le_refl _) (Nat.le_refl _) HNUMx.out (lim_limbs _)) (by have:=underLen y.den HDENy.out;omega);have hl2:(limbs (lval y.num * underN x.den)).length<=1048575:=Nat.le_trans (mul_len rfl (lval_limbs _) (Nat.le_refl _) (Nat.le_refl _) HNUMy.out (lim_limbs _)) (by have:=underLen x.den HDENx.out;omega);have hAd:=r2Add hi1 hi2 (by omega) (by omega);have HAd:=hid hAd;have HQ:Hid (ratL (ratOf x+ratOf y)=quotN (decide (sgn x.neg (lval x.num * underN y.den)+sgn y.neg (lval y.num * underN x.den) < 0)) (sgn x.neg (lval x.num * underN y.den)+sgn y.neg (lval y.num * underN x.den)).natAbs (underN x.den * underN y.den)):=by
  unfold Hid;rw [quotN_ratL _ _ (Nat.mul_pos (underN_pos _) (underN_pos _)),sgn_of_int,addQ _ _ _ _ (underN_pos _) (underN_pos _)];rfl
 have hlz:(limbs (sgn x.neg (lval x.num * underN y.den)+sgn y.neg (lval y.num * underN x.den)).natAbs).length<=1048576:=by
  refine Nat.le_trans (limbs_len_mono (b:=lval (limbs (lval x.num * underN y.den))+lval (limbs (lval y.num * underN x.den))) ?_) (add_len (lim_limbs _) (lim_limbs _) hl1 hl2)
  rw [lval_limbs,lval_limbs];generalize lval x.num * underN y.den=p;generalize lval y.num * underN x.den=q;cases x.neg <;> cases y.neg <;> simp [sgn] <;> omega
 generalize sgn x.neg (lval x.num * underN y.den)+sgn y.neg (lval y.num * underN x.den)=z at *;clear hbw hu2 HX2 HU2 HF2 HA52 HB42 HB52 HBX2 HNO2 HR2 HG22 e0 e1 ef elt hi1 hi2 hl1 hl2 hAd hgp2 hB2
 go_wp2_with fail
 refine HAd.out.mono ?_
 rintro e W5 ⟨v5,rfl,⟨a5',c5,rfl,f1,f2⟩,hb5⟩;obtain ⟨F2,HF5,HA55,HB55⟩:=hd4 f2 (HF4.out.below hb5) (HA54.out.below hb5) (HB54.out.below hb5);clear f2 hb5 HAd HF4 HA54 HB54 x0 x1 xlt y0 y1 ylt;generalize hzb:decide (z < 0)=zb at *;generalize hzn:z.natAbs=zn at *;clear hzb hzn
 go_upto_region 4 with fail
 have hal:=blA W5 (.cells #[.bool zb,.slice a5' (limbs zn).length c5] 89);have hbx:=Box2.alloc W5 (.bool zb) (.slice a5' (limbs zn).length c5) 89;have HGS:=hid (HF5.out.c.lt);generalize hgs:W5.heap.size=gs at *;have hgs5:W5.heap.size<=gs:=by omega
 generalize W5.alloc (.cells #[.bool zb,.slice a5' (limbs zn).length c5] 89)=W6 at *;rw [<- hgs] at hal;obtain ⟨HF6,HA56,HB56,F26,HS6⟩:=hd5 (HF5.out.below hal) (HA55.out.below hal) (HB55.out.below hal) (F2.out.below hal) hbx;have xbl:Below W6.heap.size W6 W6.drew:=(Below.refl _ _).drew;have tok2:True:=trivial;have HDp:=hid (Nat.mul_pos (underN_pos x.den) (underN_pos y.den));clear hal hbx hgs hgs5 HF5 HA55 HB55 F2
 go_region_held3 (fun w'=>w'.cell? ⟨gs,0,none⟩=some (.bool zb)/\w'.cell? ⟨gs,1,none⟩=some (.slice a5' (limbs zn).length c5)/\w'.cell? ⟨w.heap.size,2,none⟩=some (.slice ad x.den.length cd)/\w'.cell? ⟨w.heap.size+1,2,none⟩=some (.slice bd y.den.length dd))
  (first | exact S4_keep HS6.out HF6.out ‹Below W6.heap.size W6 _› | exact S4_store HS6.out HF6.out hS5 HGS.out _ _ _)
  (first
   | (go_at_call 75; have _t := tok2; clear tok2; have hS := ‹Below W6.heap.size W6 _›; refine (r3one cd a3 (HA56.out.below hS) (by omega)).mono ?_; rintro e w2 ⟨a2', c2, l2, rfl, p1, p2, p3, p4, p5⟩
      have hS2:=hS.trans (p5.mono hS.size);have P2:=hid p2;have P3:=hid p3;clear p2 p3)
   | (go_at_call 75; have hS := ‹Below W6.heap.size W6 _›; refine (r3one dd b3 (HB56.out.below hS) (by omega)).mono ?_; rintro e w3 ⟨a3', c3, l3, rfl, q1, q2, q3, q4, q5⟩
      have hS3:=hS.trans (q5.mono hS.size);have P2b:=hid (P2.out.below q5);have Q2:=hid q2;have Q3:=hid q3;clear q2 q3)
   | (go_at_call 108; have hS := ‹Below W6.heap.size W6 _›; refine (r1Mul c2 c3 P2b.out Q2.out P3.out Q3.out (by omega)).mono ?_; rintro e w4 ⟨a4, c4, rfl, t1, t2, t3, _⟩
      have hS4:=hS.trans (t3.mono hS.size);have T2:=hid t2;clear t2;have hdl:(limbs (underN x.den * underN y.den)).length<=2097152:=Nat.le_trans (mul_len P3.out Q3.out p4 q4 P2b.out.lim Q2.out.lim) (by omega))
   | (go_at_call 74; have hS := ‹Below W6.heap.size W6 _›; refine (r3quot zb c5 c4 f1 t1 (F26.out.below hS) T2.out (lval_limbs _) (lval_limbs _) (by omega) hdl HDp.out).mono ?_
      rintro e w5 ⟨v5,rfl,⟨bn',bd',m1,m2,rfl,k3,k4,k5,k6⟩,k2⟩;have hS5:=hS.trans (k2.mono hS.size);obtain ⟨r0,r1,r2,rf,rlt⟩:=HF6.out.c.below hS5;obtain ⟨hN5,K5,K6⟩:=hd3 (HF6.out.nc.below hS5 HF6.out.c.lt) k5 k6;have hB5:=hid (HF6.out.bl.trans (hS5.mono (by have:=HF6.out.a.lt;omega)))))
 generalize quotN zb zn (underN x.den * underN y.den)=R at *;go_wp2;exact bodyPost_ret (v:=.agg #[.bool R.neg,.slice bn' R.num.length m1,.slice bd' R.den.length m2]) (by simp [results,Tryz.results78,go_sem,r0,r1,r2]) rfl ⟨_,rfl,by rw [HQ.out];exact RatV.store hN5.out k3 k4 K5.out K6.out,below_store3 hB5.out (by omega) _ _ _⟩
theorem r3Sign {w:World} {v:Value} {x:RatL} (hv:RatV w v x) (hx:x.num.length<=17592186044416):
  Calls Tryz.prog 71 #[v] w fun e w'=>e=.returned (.int .i64 (signQ (ratOf x)))/\Below w.heap.size w w':=by
 obtain ⟨an,ad,cn,cd,rfl,a2,a3,a4,a5⟩:=hv.ex;have hl1:=a4.len;have hb:=blA w (ratO x an cn ad cd 51);have hI:IntV (w.alloc (ratO x an cn ad cd 51)) (.agg #[.bool x.neg,.slice an x.num.length cn]) x.neg (lval x.num) x.num.length:=⟨an,cn,_,rfl,a2,a4.below hb,rfl,Nat.le_refl _⟩
 obtain ⟨HS,HZ,HB⟩:=hd3 (r2Sign hI hx) (signZ_signQ x) hb;clear hv a4 a5 hI hb
 go_enter Tryz.func71,Tryz.ntmps71
 go_wp2_with fail
 refine HS.out.mono ?_
 rintro e w1 ⟨rfl,hb1⟩;have HB1:=htr HB hb1;clear HS hb1;go_wp2;go_ret;exact ⟨ret_int HZ.out,HB1.out⟩
theorem signQ_zero {q:Rat}:(signQ q=0) ↔ q=0:=by
 unfold signQ
 by_cases h1:q < 0
 ·rw [if_pos h1];constructor
  ·intro h;omega
  ·intro h;subst h;exact absurd h1 (by decide)
 ·rw [if_neg h1]
  by_cases h2:0 < q
  ·rw [if_pos h2];constructor
   ·intro h;omega
   ·intro h;subst h;exact absurd h2 (by decide)
  ·rw [if_neg h2];exact ⟨fun _=>Rat.le_antisymm (Rat.not_lt.1 h2) (Rat.not_lt.1 h1),fun _=>rfl⟩
def RetRE (w:World) (x:RatL) (c:Int) (e:Ending) (w':World):Prop:=∃ v,e=.returned (.tuple #[v,.int .i64 c])/\RatV w' v x/\Below w.heap.size w w'
theorem ratL_int (z:Int):ratL (z:Rat)=⟨decide (z < 0),limbs z.natAbs,[]⟩:=by
 unfold ratL;rw [Rat.num_intCast,Rat.den_intCast];rfl
theorem r3Of (w:World) (x:Int) (h1: -9223372036854775808<=x) (h2:x<=9223372036854775807):
  Calls Tryz.prog 27 #[.int .i64 x] w (RetR w (ratL (x:Rat))):=by
 have hR:=Box3.alloc w (.bool false) (.slice none 0 0) (.slice none 0 0) 51;have hN:=NoInt.alloc w #[.bool false,.slice none 0 0,.slice none 0 0] 51 (by simp);have hB0:=blA w (zerO 51);obtain ⟨HO,HR,HN,HB,HQ⟩:=hd5 (fun wv=>r2Of wv x h1 h2) hR hN hB0 (ratL_int x);clear hR hN hB0
 go_enter Tryz.func27,Tryz.ntmps27
 go_wp2_with fail
 refine (HO.out _).mono ?_
 rintro e w1 ⟨v1,rfl,⟨a1,c1,rfl,g1,g2⟩,hb⟩;generalize hzb:decide (x < 0)=zb at *;generalize hzn:limbs x.natAbs=zn at *;have hal:=blA w1 (.cells #[.bool zb,.slice a1 zn.length c1] 89);obtain ⟨r0,r1,r2,rf,rlt⟩:=(HR.out.below hb).below hal;obtain ⟨hN2,HB2,G2⟩:=hd3 ((HN.out.below hb HR.out.lt).below hal (HR.out.below hb).lt) (HB.out.trans ((hb.trans (hal.mono hb.size)).mono HB.out.size)) (g2.below hal);clear HO hb hal g2 HR HN HB hzb hzn;go_wp2;exact bodyPost_ret (v:=.agg #[.bool zb,.slice a1 zn.length c1,.slice none 0 0]) (by simp [results,Tryz.results27,go_sem,r0,r1,r2]) rfl ⟨_,rfl,by rw [HQ.out];exact RatV.store (x:=⟨zb,zn,[]⟩) (bd:=none) (m2:=0) hN2.out g1 (Nat.le_refl _) G2.out (U32s.nil _ _),below_store3 HB2.out (Nat.le_refl _) _ _ _⟩
structure TwoIR (w W:World) (g:Nat) (p q r s:Value):Prop where
 a:Box2 W g p q
 b:Box2 W (g+1) r s
 c:Box3 W (g+1+1) (.bool false) (.slice none 0 0) (.slice none 0 0)
 nc:NoInt W (g+1+1)
 bl:Below g w W
theorem TwoIR.mk' (w:World) (p q r s:Value) (T T':Nat):TwoIR w (((w.alloc (.cells #[p,q] T)).alloc (.cells #[r,s] T)).alloc (.cells #[.bool false,.slice none 0 0,.slice none 0 0] T')) w.heap.size p q r s:=by
 have step:∀ (W:World) (o:Obj),Below W.heap.size W (W.alloc o):=fun W o=>(Below.refl _ _).alloc (Nat.le_refl _) _
 have s1:=step w (.cells #[p,q] T);have s2:=step (w.alloc (.cells #[p,q] T)) (.cells #[r,s] T);have s3:=step ((w.alloc (.cells #[p,q] T)).alloc (.cells #[r,s] T)) (.cells #[.bool false,.slice none 0 0,.slice none 0 0] T');have b1:=Box2.alloc w p q T;have b2:=Box2.alloc (w.alloc (.cells #[p,q] T)) r s T;have b3:=Box3.alloc ((w.alloc (.cells #[p,q] T)).alloc (.cells #[r,s] T)) (.bool false) (.slice none 0 0) (.slice none 0 0) T';have n3:=NoInt.alloc ((w.alloc (.cells #[p,q] T)).alloc (.cells #[r,s] T)) #[.bool false,.slice none 0 0,.slice none 0 0] T' (by simp);have b1':=(b1.below s2).below s3;have b2':=b2.below s3;have bl:=(s1.trans (s2.mono (by simp))).trans (s3.mono (by simp;omega));simp only [World.size_alloc] at b2' b3 n3;exact ⟨b1',b2',b3,n3,bl⟩
theorem TwoIR.below' {w W W':World} {g:Nat} {p q r s:Value} (h:TwoIR w W g p q r s) (hb:Below W.heap.size W W'):TwoIR w W' g p q r s:=
 ⟨h.a.below hb,h.b.below hb,h.c.below hb,h.nc.below hb h.c.lt,h.bl.trans (hb.mono (by have:=h.a.lt;omega))⟩
structure TwoB (w W:World) (g:Nat) (p q r s t u:Value):Prop where
 a:Box3 W g p q r
 b:Box3 W (g+1) s t u
 bl:Below g w W
theorem TwoB.mk' (w:World) (p q r s t u:Value) (T:Nat):TwoB w ((w.alloc (.cells #[p,q,r] T)).alloc (.cells #[s,t,u] T)) w.heap.size p q r s t u:=by
 have step:∀ (W:World) (o:Obj),Below W.heap.size W (W.alloc o):=fun W o=>(Below.refl _ _).alloc (Nat.le_refl _) _
 have s1:=step w (.cells #[p,q,r] T);have s3:=step (w.alloc (.cells #[p,q,r] T)) (.cells #[s,t,u] T);have b1:=Box3.alloc w p q r T;have b3:=Box3.alloc (w.alloc (.cells #[p,q,r] T)) s t u T;have b1':=b1.below s3;have bl:=s1.trans (s3.mono (by simp));simp only [World.size_alloc] at b3;exact ⟨b1',b3,bl⟩
theorem ratL_ext (x y:RatL):decide (x=y)=(decide (x.neg=y.neg) && (decide (x.num=y.num) && decide (x.den=y.den))):=by
 rw [Bool.eq_iff_iff];simp only [decide_eq_true_eq,Bool.and_eq_true];obtain ⟨a,b,c⟩:=x;obtain ⟨d,e,f⟩:=y;simp
theorem r3Same {w:World} {v u:Value} {x y:RatL} (hv:RatV w v x) (hu:RatV w u y):
  Calls Tryz.prog 24 #[v,u] w fun e w'=>e=.returned (.bool (decide (x=y)))/\Below w.heap.size w w':=by
 obtain ⟨an,ad,cn,cd,rfl,a2,a3,a4,a5⟩:=hv.ex;obtain ⟨bn,bd,dn,dd,rfl,b2,b3,b4,b5⟩:=hu.ex;have HR:=hid (ratL_ext x y);generalize decide (x=y)=R at *;have hl1:=a4.len;have hl2:=a5.len;have hl3:=b4.len;have hl4:=b5.len;obtain ⟨A4,A5,B4,B5⟩:=hd4 a4 a5 b4 b5;clear hv hu a4 a5 b4 b5
 go_enter Tryz.func24,Tryz.ntmps24
 go_upto_region 1 with fail
 have hF:=TwoB.mk' w (.bool x.neg) (.slice an x.num.length cn) (.slice ad x.den.length cd) (.bool y.neg) (.slice bn y.num.length dn) (.slice bd y.den.length dd) 51;generalize (w.alloc (ratO x an cn ad cd 51)).alloc (ratO y bn dn bd dd 51)=W at *;obtain ⟨HBl,HM1,HM2,HBn⟩:=hd4 hF.bl (r1Same cn dn (A4.out.below hF.bl) (B4.out.below hF.bl)) (fun n=>r1Same cd dd ((A5.out.below hF.bl).drewN n) ((B5.out.below hF.bl).drewN n)) (fun (wv:World) n=>Below.drewN_refl wv n);obtain ⟨x0,x1,x2,_,xlt⟩:=hF.a;obtain ⟨y0,y1,y2,_,ylt⟩:=hF.b;have hbs:=hF.bl.size;clear hF A4 A5 B4 B5
 by_cases e1:x.neg=y.neg
 ·have te1:(x.neg==y.neg)=true:=by rw [beq_iff_eq];exact e1
  rw [decide_eq_true e1,Bool.true_and] at HR;clear e1
  by_cases e2:x.num=y.num
  ·rw [decide_eq_true e2] at HR HM1;clear e2;rw [Bool.true_and] at HR;generalize decide (x.den=y.den)=D at *
   go_wp2_with fail
   refine HM1.out.mono ?_
   rintro e w2 ⟨rfl,n1,rfl⟩
   go_wp2_with fail
   refine (HM2.out n1).mono ?_
   rintro e w3 ⟨rfl,n2,rfl⟩;go_wp2;go_ret;exact ⟨ret_bool HR.out.symm,HBl.out.trans ((HBn.out _ (n1+n2)).mono HBl.out.size)⟩
  ·rw [decide_eq_false e2] at HR HM1;clear e2;rw [Bool.false_and] at HR
   go_wp2_with fail
   refine HM1.out.mono ?_
   rintro e w2 ⟨rfl,n1,rfl⟩;go_wp2;go_ret;exact ⟨ret_bool HR.out.symm,HBl.out.trans ((HBn.out _ _).mono HBl.out.size)⟩
 ·have te1:(x.neg==y.neg)=false:=by rw [beq_eq_false_iff_ne];exact e1
  rw [decide_eq_false e1,Bool.false_and] at HR;clear e1;go_wp2;go_ret;exact ⟨ret_bool HR.out.symm,HBl.out⟩
theorem r3Valid {w:World} {v:Value} {x:RatL} (hv:RatV w v x) (hx:RatLe x 1048576):
  Calls Tryz.prog 67 #[v] w fun e w'=>e=.returned (.bool (validR x))/\Below w.heap.size w w':=by
 obtain ⟨HV,HX⟩:=hd2 hv hx;obtain ⟨an,ad,cn,cd,rfl,a2,a3,a4,a5⟩:=hv.ex;have HR:Hid (validR x=decide (x=canonL x)):=rfl;generalize validR x=R at *;have hl1:=a4.len;have hl2:=a5.len;clear hv hx a4 a5
 go_enter Tryz.func67,Tryz.ntmps67
 go_upto_region 1 with fail
 have hX:=Box3.alloc w (.bool x.neg) (.slice an x.num.length cn) (.slice ad x.den.length cd) 51;have hb:=blA w (ratO x an cn ad cd 51);generalize w.alloc (ratO x an cn ad cd 51)=W at *;obtain ⟨HB,HV2,HX3⟩:=hd3 hb (HV.out.below hb) hX;obtain ⟨x0,x1,x2,xf,xlt⟩:=hX;have xbl:Below W.heap.size W W.drew:=(Below.refl _ _).drew;clear hb xf HV
 go_region_held3 (fun w'=>w'.cell? ⟨w.heap.size,0,none⟩=some (.bool x.neg)/\w'.cell? ⟨w.heap.size,1,none⟩=some (.slice an x.num.length cn)/\w'.cell? ⟨w.heap.size,2,none⟩=some (.slice ad x.den.length cd))
  (first | exact S3_keep x0 x1 x2 xlt ‹Below W.heap.size W _› | go_keep)
  (first
   | (go_at_call 45; have hS := ‹Below W.heap.size W _›; refine (r3Canon (HV2.out.below hS) HX.out).mono ?_; rintro e w1 ⟨v1, rfl, g1, g2⟩
      have hS1:=hS.trans (g2.mono hS.size);have G1:=hid g1;clear g1)
   | (go_at_call 24; have hS := ‹Below W.heap.size W _›; refine (r3Same (HV2.out.below hS) G1.out).mono ?_
      rintro e w2 ⟨rfl,g3⟩;have hS2:=hS.trans (g3.mono hS.size);have hB2:=htr HB hS2))
 go_wp2;go_ret;exact ⟨ret_bool HR.out.symm,hB2.out⟩
theorem allV_take {L:List RatL} {j:Nat} {x:RatL} (hx:L[j]? =some x):(L.take (j+1)).all validR=((L.take j).all validR && validR x):=by
 rw [take_succ_at hx,List.all_append];simp
theorem allV_false {L:List RatL} {x:RatL} (hx:x ∈ L) (h:validR x=false):L.all validR=false:=by
 rw [List.all_eq_false];exact ⟨x,hx,by simp [h]⟩
theorem r3ValidAll {w:World} {a:Option Addr} {L:List RatL} (c:Nat) (h:RatsAt w a L) (hL:∀ x ∈ L,RatLe x 1048576):
  Calls Tryz.prog 38 #[.slice a L.length c] w fun e w'=>e=.returned (.bool (L.all validR))/\Below w.heap.size w w':=by
 have hl:=h.len;obtain ⟨H,HL⟩:=hd2 h hL;have HR:Hid (L.all validR=L.all validR):=rfl;have HF:Hid (∀ x ∈ L,validR x=false->L.all validR=false):=fun x hx hf=>allV_false hx hf
 clear h hL
 go_enter Tryz.func38,Tryz.ntmps38
 go_wp2
 go_loopw [3] (fun i wr=>∃ j:Nat,j<=L.length/\i=.int .i64 (j:Int)/\Hid ((L.take j).all validR=true)/\Hid (Below w.heap.size w wr)) (fun i _=>L.length - (intOf i).toNat)
 case atStart=>exact ⟨0,Nat.zero_le _,rfl,rfl,Below.refl _ _⟩
 case round=>
  obtain ⟨j,hj,rfl,HA,HB⟩:=hrel
  by_cases hlt:j < L.length
  ·obtain ⟨b,off,x,an,ad,cn,cd,rfl,hb,hx,o0,o1,o2,hv⟩:=(H.out.below HB.out).pick hlt;obtain ⟨HM,HT⟩:=hd2 (List.mem_of_getElem? hx) (allV_take hx);have HC:=hid (r3Valid hv (HL.out _ HM.out));clear hx hv
   go_wp2_with fail
   refine HC.out.mono ?_
   rintro e w2 ⟨rfl,hb2⟩;have HB2:=htr HB hb2;clear hb2 HC o0 o1 o2
   cases hq:validR x with
   | false=>
    have HF2:=hid (HF.out x HM.out hq);clear hq;go_wp2;go_ret;exact ⟨ret_bool HF2.out.symm,HB2.out⟩
   | true=>
    have HT2:Hid ((L.take (j+1)).all validR=true):=by unfold Hid;rw [HT.out,HA.out,hq];rfl
    clear hq;go_wp2;go_roundw
    case rel=>exact ⟨j+1,hlt,by go_num,HT2.out,HB2.out⟩
    case measure=>simp [intOf];omega
  ·have HR2:Hid (L.all validR=true):=by
    have h:=HA.out;rw [List.take_of_length_le (by omega)] at h;exact h
   go_wp2;go_ret;exact ⟨ret_bool HR2.out.symm,HB.out⟩
end Go.Proofs.YtfgmmghmmfmdgaaGreat
