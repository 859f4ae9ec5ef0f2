/-
  Contracts: RatC, RatD, IntA, IntB, IntC, RatE, RatF, KerA, KerB, KerC, KerD, KerE, KerF, KerG, ModA, ModC, ModD, ModE, RatQ, RatR, LitB, SlotsD, ModB.
-/
import Derived.Test.YtfgmmghmmfmdgaaGreatY6
import Derived.Deep.RegionHeld3
import Derived.Test.YtfgmmghmmfmdgaaGreatY0
set_option linter.all false
set_option maxRecDepth 100000
set_option maxHeartbeats 3200000
namespace Go.Proofs.YtfgmmghmmfmdgaaGreat
open Go.RowKit
open Go.Lib (hid)
variable {P:Prop} {w' W w1:World} {g y k h o:Nat} {p q r v s u:Value} {x:zaI} {m:List Nat} {L M:List zaI}
theorem Uw(h:P:=by exact⟨zj HR.out.symm,HB2.out⟩):P:=h
theorem Th(h:P:=by exact⟨zj HR.out.symm,HB.out⟩):P:=h
theorem Tp(h:P:=by go_wp2;have hbf:=(HB1.out.setCell (p:=⟨w.heap.size,0,none⟩) (Za _) (.bool false)).setCell (p:=⟨w.heap.size,1,none⟩) (Za _) (.slice a1 0 c1);exact Zr (v:=.agg #[.bool false,.slice a1 0 c1]) YV rfl ⟨_,rfl,⟨a1,c1,[],rfl,Zs _,zt.nil _ _,rfl,Zs _⟩,hbf⟩):P:=h
theorem T4(h:P:=by exact⟨zj HR.out,HB.out.trans (HW2.out.mono HB.out.size)⟩):P:=h
theorem TM(h:P:=by exact⟨zj HR.out,HB.out.trans (HW1.out.mono HB.out.size)⟩):P:=h
theorem TQ(h:P:=by exact⟨zj HR.out,HB.out⟩):P:=h
theorem EM(h:P:=by have:=zV.alloc (w.alloc (zcB x an cn ad cd 51)) #[.bool false,.slice none 0 0,.slice none 0 0] 51 Yd;simpa using this):P:=h
theorem EO(h:P:=by have:=zbn.alloc (w.alloc (zcB x an cn ad cd 51)) (.bool false) (.slice none 0 0) (.slice none 0 0) 51;simpa using this):P:=h
theorem Iw(h:P:=by exact⟨zj HR.out.symm,HB.out.trans ((HBn.out _ (n1+n2)).mono HB.out.size)⟩):P:=h
theorem I7(h:P:=by simp only[Zw,ZaC,Zy,ZL,ZK]):P:=h
theorem YV(h:P:=by simp[results,Tryz.results177,go_sem,r0,r1]):P:=h
structure zbn (w:World) (g:Nat) (p q r:Value):Prop where
 c0:w.cell? ⟨g,0,none⟩=some p
 c1:w.cell? ⟨g,1,none⟩=some q
 c2:w.cell? ⟨g,2,none⟩=some r
 free:∀o,w.frozen? ⟨g,o,none⟩=false
 lt:g<w.heap.size
theorem zbn.below{w:World}(h:zbn w g p q r)(hb:Below w.heap.size w w'):zbn w' g p q r:=
 ⟨(hb.cell h.lt).trans h.c0,(hb.cell h.lt).trans h.c1,(hb.cell h.lt).trans h.c2,fun o=>(hb.frozen h.lt).trans (h.free o),Zd h.lt hb.size⟩
theorem zbn.alloc(w:World)(p q r:Value)(T:Nat):zbn (w.alloc (.cells #[p,q,r] T)) w.heap.size p q r:=
 ⟨by rw[World.cell?_alloc_at _ _ _ _ rfl];rfl,by rw[World.cell?_alloc_at _ _ _ _ rfl];rfl,by rw[World.cell?_alloc_at _ _ _ _ rfl];rfl,fun o=>ZaZ _ _ _ _,Yd⟩
theorem zj0(h0:W.cell? ⟨g,0,none⟩=some p)(h1:W.cell? ⟨g,1,none⟩=some q)(h2:W.cell? ⟨g,2,none⟩=some r)(hlt:g<W.heap.size)(hb:Below W.heap.size W w1):
  w1.cell? ⟨g,0,none⟩=some p/\w1.cell? ⟨g,1,none⟩=some q/\w1.cell? ⟨g,2,none⟩=some r:=
 ⟨(hb.cell hlt).trans h0,(hb.cell hlt).trans h1,(hb.cell hlt).trans h2⟩
theorem zpD{w:World}{v:Value}{x:zaI}(h:RatV w v x)(hr:x.num.length<=1099511627776)(hr2:x.den.length<1099511627776):Calls Tryz.prog 121 #[v] w (zey w (za0 x)):=by
 obtain⟨an,ad,cn,cd,hv,h2,h3,h4,h5⟩:=h.ex;have hl1:=h4.len;have hl2:=h5.len;obtain⟨HV,H4,HVe⟩:=hd3 h h4 hv;rw[hv];clear h h4 h5 hv
 go_enter Tryz.func121,Tryz.ntmps121
 go_wp2_with fail
 have hB0:Below w.heap.size w ((w.alloc (zcB x an cn ad cd 51)).alloc (zeP 51)):=
  ((Zg _ _).alloc (Za _) _).alloc Yd _
 have hX:zbn ((w.alloc (zcB x an cn ad cd 51)).alloc (zeP 51)) w.heap.size (.bool x.neg) (.slice an x.num.length cn) (.slice ad x.den.length cd):=
  (zbn.alloc w _ _ _ _).below ((Zg _ _).alloc (Za _) _)
 have hR:zbn ((w.alloc (zcB x an cn ad cd 51)).alloc (zeP 51)) (w.heap.size+1) (.bool false) (.slice none 0 0) (.slice none 0 0):=EO;have hN:zV ((w.alloc (zcB x an cn ad cd 51)).alloc (zeP 51)) (w.heap.size+1):=EM;generalize(w.alloc (zcB x an cn ad cd 51)).alloc (zeP 51)=W at *;obtain⟨HV2,H42⟩:=hd2 (HV.out.below hB0) (H4.out.below hB0);rw[HVe.out]at HV2;obtain⟨x0,x1,x2,xf,xlt⟩:=hX;obtain⟨HR,HNo,HB⟩:=hd3 hR hN hB0;have xbl:Below W.heap.size W W.drew:=(Zg _ _).drew;clear hR hN hB0 xf HV HVe H4
 go_region_held3 (fun w'=>w'.cell? ⟨w.heap.size,0,none⟩=some (.bool x.neg)/\w'.cell? ⟨w.heap.size,1,none⟩=some (.slice an x.num.length cn)/\w'.cell? ⟨w.heap.size,2,none⟩=some (.slice ad x.den.length cd))
  (first|exact zj0 x0 x1 x2 xlt ‹Below W.heap.size W _› | go_keep)
  (first
   | (go_at_call 150; have hS := ‹Below W.heap.size W _›; refine (zgF (HV2.out.below hS) (by show x.den.length <= _; omega)).mono ?_; rintro e w1 ⟨a1, c1, l1, rfl, g1, g2, g3, g4, g5⟩
      have hS1:=hS.trans (g5.mono hS.size))
   | (go_at_call 128; have hS := ‹Below W.heap.size W _›; refine (zl5 x.neg cn c1 h2 g1 (H42.out.below hS) g2 rfl g3 hr Ya (z6 _)).mono ?_
      rintro e w2 ⟨v2,rfl,⟨bn,bd,m1,m2,rfl,k3,k4,k5,k6⟩,k2⟩;have hS2:=hS.trans (k2.mono hS.size);obtain⟨r0,r1,r2,rf,rlt⟩:=HR.out.below hS2;obtain⟨hN2,K5,K6⟩:=hd3 (HNo.out.below hS2 HR.out.lt) k5 k6;have hB2:=htr HB hS2))
 go_wp2;have hbf:=(((hB2.out.setCell (p:=⟨w.heap.size+1,0,none⟩) (Zab _) (.bool (za0 x).neg)).setCell (p:=⟨w.heap.size+1,1,none⟩) (Zab _) (.slice bn (za0 x).num.length m1)).setCell (p:=⟨w.heap.size+1,2,none⟩) (Zab _) (.slice bd (za0 x).den.length m2))
 refine Zr (v:=.agg #[.bool (za0 x).neg,.slice bn (za0 x).num.length m1,.slice bd (za0 x).den.length m2]) (by simp[results,Tryz.results121,go_sem,r0,r1,r2,za0]) rfl ⟨_,rfl,⟨bn,bd,m1,m2,rfl,k3,k4,?_,?_⟩,hbf⟩
 ·exact((K5.out.setCell hN2.out _ _).setCell (hN2.out.setCell _ _ Yd) _ _).setCell ((hN2.out.setCell _ _ Yd).setCell _ _ Yd) _ _
 ·exact((K6.out.setCell hN2.out _ _).setCell (hN2.out.setCell _ _ Yd) _ _).setCell ((hN2.out.setCell _ _ Yd).setCell _ _ Yd) _ _
theorem zjZ{w:World}(h:RatV w v x)(hd:x.den=[]):Calls Tryz.prog 83 #[v] w fun e w'=>e=.returned (.bool (zL x))/\Below w.heap.size w w':=by
 obtain⟨an,ad,cn,cd,rfl,h2,h3,h4,h5⟩:=h.ex;have hR:=zlJ h.lim hd;have hl:=h4.len;rw[hd]at *;have hB0:=blA w (.cells #[.bool x.neg,.slice an x.num.length cn,.slice ad ([]:List Nat).length cd] 51);obtain⟨HV,HB,HR⟩:=hd3 (zrw cn (h4.below hB0)) hB0 hR;clear h hR h4 h5 h3 h2 hB0 hd
 by_cases hc:zfI x.num
 ·rw[Zk hc]at HV HR;clear hc
  by_cases hn:x.neg=true
  ·rw[hn]at HV HR HB⊢;clear hn
   by_cases hp:0<x.num.length
   ·rw[Zk hp]at HR
    go_enter Tryz.func83,Tryz.ntmps83
    go_wp2_with fail
    refine HV.out.mono ?_
    rintro e w' ⟨rfl,rfl⟩;go_wp2;go_ret;exact Th
   ·rw[Zo hp]at HR;have hp0:x.num.length=0:=Ya;rw[hp0]at HV HB⊢;clear hp hp0
    go_enter Tryz.func83,Tryz.ntmps83
    go_wp2_with fail
    refine HV.out.mono ?_
    rintro e w' ⟨rfl,rfl⟩;go_wp2;go_ret;exact Th
  ·rw[Za3]at hn;rw[hn]at HV HR HB⊢;clear hn
   go_enter Tryz.func83,Tryz.ntmps83
   go_wp2_with fail
   refine HV.out.mono ?_
   rintro e w' ⟨rfl,rfl⟩;go_wp2;go_ret;exact Th
 ·rw[Zo hc]at HV HR;clear hc
  go_enter Tryz.func83,Tryz.ntmps83
  go_wp2_with fail
  refine HV.out.mono ?_
  rintro e w' ⟨rfl,rfl⟩;go_wp2;go_ret;exact Th
theorem ze1{x:Nat}:(zdy x y==0)=decide (x=y):=by
 unfold zdy;rw[ZY,ZaC,Zy]
 split<;>(try split)<;>omega
theorem zhy{a b:Nat}:((a:Int)==(b:Int))=decide (a=b):=by
 rw[ZY,ZaC,Zy];omega
theorem zjK{w:World}(h:RatV w v x)(hd:x.den≠[])(hr:x.num.length<=1099511627776)(hr2:x.den.length<1099511627776):Calls Tryz.prog 83 #[v] w fun e w'=>e=.returned (.bool (zL x))/\Below w.heap.size w w':=by
 have hR:=zk4 h.lim;have HVw:=hid h;obtain⟨an,ad,cn,cd,hv,h2,h3,h4,h5⟩:=h.ex;have HVe:=hid hv;rw[hv];have hl:=h4.len;have hl2:=h5.len;have hdl:((x.den.length:Int)==0)=false:=by have:=ZH.2 hd;rw[Z7];omega
 obtain⟨HD,H4,H5,HC0⟩:=hd4 hd h4 h5 (fun wv (hh:RatV wv v x)=>zpD hh hr hr2);rw[hv]at HC0 HVw;generalize za0 x=C at hR HC0;have HR:=hid hR;clear h h4 h5 hd hv hR
 go_enter Tryz.func83,Tryz.ntmps83
 have hB0:=blA w (zcB x an cn ad cd 51)
 go_wp2_with fail
 refine(HC0.out _ (HVw.out.below hB0)).mono ?_
 rintro e1 w1 ⟨v2,rfl,⟨bn,bd,m1,m2,rfl,k3,k4,k5,k6⟩,hb1⟩;have hX1:=(zbn.alloc w (.bool x.neg) (.slice an x.num.length cn) (.slice ad x.den.length cd) 51).below hb1;have hbA:=hB0.trans (hb1.mono hB0.size);have hbB:=blA w1 (zcB C bn m1 bd m2 51);obtain⟨x0,x1,x2,_,_⟩:=hX1.below hbB;obtain⟨r0,r1,r2,_,_⟩:=zbn.alloc w1 (.bool C.neg) (.slice bn C.num.length m1) (.slice bd C.den.length m2) 51;have HB:=hid (hbA.trans (hbB.mono hbA.size));have hlc1:=k5.len;have hlc2:=k6.len;obtain⟨HM1,HM2,HBn⟩:=hd3 (zpR cn m1 h2 k3 ((H4.out.below hbA).below hbB) (k5.below hbB) rfl rfl) (fun n=>zpR cd m2 h3 k4 (((H5.out.below hbA).below hbB).drewN n) ((k6.below hbB).drewN n) rfl rfl) (fun(wv:World) n=>Below.drewN_refl wv n);clear k5 k6 hbA hbB hb1 hB0 hX1
 by_cases e1:x.neg=C.neg
 ·have te1:(x.neg==C.neg)=true:=Vb;rw[Zk e1]at HR;clear e1
  by_cases e2:x.num.length=C.num.length
  ·have te2:((x.num.length:Int)==(C.num.length:Int))=true:=by rw[zhy];exact Zk e2
   rw[Zk e2]at HR;clear e2
   by_cases e3:x.den.length=C.den.length
   ·have te3:((x.den.length:Int)==(C.den.length:Int))=true:=by rw[zhy];exact Zk e3
    rw[Zk e3]at HR;clear e3
    by_cases e4:zo x.num=zo C.num
    ·have t4:(zdy (zo x.num) (zo C.num)==0)=true:=by rw[ze1];exact Zk e4
     rw[Zk e4]at HR;clear e4;generalize zdy (zo x.num) (zo C.num)=z1 at *
     by_cases e5:zo x.den=zo C.den
     ·have t5:(zdy (zo x.den) (zo C.den)==0)=true:=by rw[ze1];exact Zk e5
      rw[Zk e5]at HR;clear e5;generalize zdy (zo x.den) (zo C.den)=z2 at *
      go_wp2_with fail
      refine HM1.out.mono ?_
      rintro e2 w2 ⟨rfl,n1,rfl⟩
      go_wp2_with fail
      refine(HM2.out n1).mono ?_
      rintro e3 w3 ⟨rfl,n2,rfl⟩;go_wp2;go_ret;exact Iw
     ·have t5:(zdy (zo x.den) (zo C.den)==0)=false:=by rw[ze1];exact Zo e5
      rw[Zo e5]at HR;clear e5;generalize zdy (zo x.den) (zo C.den)=z2 at *
      go_wp2_with fail
      refine HM1.out.mono ?_
      rintro e2 w2 ⟨rfl,n1,rfl⟩
      go_wp2_with fail
      refine(HM2.out n1).mono ?_
      rintro e3 w3 ⟨rfl,n2,rfl⟩;go_wp2;go_ret;exact Iw
    ·have t4:(zdy (zo x.num) (zo C.num)==0)=false:=by rw[ze1];exact Zo e4
     rw[Zo e4]at HR;clear e4;generalize zdy (zo x.num) (zo C.num)=z1 at *
     go_wp2_with fail
     refine HM1.out.mono ?_
     rintro e2 w2 ⟨rfl,n1,rfl⟩;go_wp2;go_ret;exact⟨zj HR.out.symm,HB.out.trans ((HBn.out _ _).mono HB.out.size)⟩
   ·have te3:((x.den.length:Int)==(C.den.length:Int))=false:=by rw[zhy];exact Zo e3
    rw[Zo e3]at HR;clear e3;go_wp2;go_ret;exact Th
  ·have te2:((x.num.length:Int)==(C.num.length:Int))=false:=by rw[zhy];exact Zo e2
   rw[Zo e2]at HR;clear e2;go_wp2;go_ret;exact Th
 ·have te1:(x.neg==C.neg)=false:=Ky;rw[Zo e1]at HR;clear e1;go_wp2;go_ret;exact Th
theorem zqV{w:World}(h:RatV w v x)(hr:x.num.length<=1099511627776)(hr2:x.den.length<1099511627776):Calls Tryz.prog 83 #[v] w fun e w'=>e=.returned (.bool (zL x))/\Below w.heap.size w w':=by
 by_cases hd:x.den=[]
 ·exact zjZ h hd
 ·exact zjK h hd hr hr2
def sgn(neg:Bool)(n:Nat):Int:=if neg then -(n:Int)else(n:Int)
def zcD(neg:Bool)(n:Nat):Int:=if n=0 then 0 else if neg then -1 else 1
structure zcE (w:World) (v:Value) (neg:Bool) (n k:Nat):Prop where
 ex:∃(a:Option Addr) (c:Nat) (l:List Nat),v=.agg #[.bool neg,.slice a l.length c]/\l.length<=c/\zt w a l/\zo l=n/\l.length<=k
theorem zcE.below{w:World}{neg:Bool}{n:Nat}(h:zcE w v neg n k)(hb:Below w.heap.size w w'):zcE w' v neg n k:=by
 obtain⟨a,c,l,h1,h2,h3,h4,h5⟩:=h.ex;exact⟨a,c,l,h1,h2,h3.below hb,h4,h5⟩
def zsJ(w:World)(neg:Bool)(n k:Nat)(e:Ending)(w':World):Prop:=∃v,e=.returned v/\zcE w' v (neg && decide (n≠0)) n k/\Below w.heap.size w w'
structure za1 (w:World) (g:Nat) (p q:Value):Prop where
 c0:w.cell? ⟨g,0,none⟩=some p
 c1:w.cell? ⟨g,1,none⟩=some q
 free:∀o,w.frozen? ⟨g,o,none⟩=false
 lt:g<w.heap.size
theorem za1.below{w:World}(h:za1 w g p q)(hb:Below w.heap.size w w'):za1 w' g p q:=
 ⟨(hb.cell h.lt).trans h.c0,(hb.cell h.lt).trans h.c1,fun o=>(hb.frozen h.lt).trans (h.free o),Zd h.lt hb.size⟩
theorem za1.alloc(w:World)(p q:Value)(T:Nat):za1 (w.alloc (.cells #[p,q] T)) w.heap.size p q:=
 ⟨by rw[World.cell?_alloc_at _ _ _ _ rfl];rfl,by rw[World.cell?_alloc_at _ _ _ _ rfl];rfl,fun o=>ZaZ _ _ _ _,Yd⟩
theorem zn4{w:World}{a:Option Addr}{l:List Nat}(neg:Bool){n:Nat}(c k:Nat)(hc:l.length<=c)(h:zt w a l)(hx:zo l=n)(hk:l.length<=k)(hr:k<=17592186044416):
  Calls Tryz.prog 177 #[.bool neg,.slice a l.length c] w (zsJ w neg n k):=by
 have hB0:=blA w (.cells #[.bool false,.slice none 0 0] 89);have HM:=hid (zlM c hc (h.below hB0) Ya);rw[hx]at HM;have hR:=za1.alloc w (.bool false) (.slice none 0 0) 89;have hN:=zV.alloc w #[.bool false,.slice none 0 0] 89 Yd;have hl:=h.len;have hnl:(ze n).length<=l.length:=by have:=zz h.lim;rwa [hx]at this
 obtain⟨HB,HR,HN⟩:=hd3 hB0 hR hN;clear h hx hB0 hR hN
 go_enter Tryz.func177,Tryz.ntmps177
 go_wp2_with fail
 refine HM.out.mono ?_
 rintro e w1 ⟨a1,c1,rfl,h1,h2,hb⟩;obtain⟨r0,r1,rf,rlt⟩:=HR.out.below hb;have HN1:=hid (HN.out.below hb Yd);have HB1:=htr HB hb;have H2:=hid h2;clear HM HR HN HB h2 hb
 by_cases hn:n=0
 ·subst hn;rw[zr]at *
  cases neg with
  | false=>
   exact Tp
  | true=>
   exact Tp
 ·have hp:=zaj.2 (Zak hn);have hd:=Zk hn;have HDn:=hid hd;clear hn hd
  cases neg with
  | false=>
   go_wp2;have hbf:=(HB1.out.setCell (p:=⟨w.heap.size,0,none⟩) (Za _) (.bool false)).setCell (p:=⟨w.heap.size,1,none⟩) (Za _) (.slice a1 (ze n).length c1);exact Zr (v:=.agg #[.bool false,.slice a1 (ze n).length c1]) YV rfl ⟨_,rfl,⟨a1,c1,ze n,Yd,h1,(H2.out.setCell HN1.out _ _).setCell (HN1.out.setCell _ _ Yd) _ _,zi n,Ya⟩,hbf⟩
  | true=>
   go_wp2;have hbf:=(HB1.out.setCell (p:=⟨w.heap.size,0,none⟩) (Za _) (.bool true)).setCell (p:=⟨w.heap.size,1,none⟩) (Za _) (.slice a1 (ze n).length c1);exact Zr (v:=.agg #[.bool true,.slice a1 (ze n).length c1]) YV rfl ⟨_,rfl,⟨a1,c1,ze n,VU,h1,(H2.out.setCell HN1.out _ _).setCell (HN1.out.setCell _ _ Yd) _ _,zi n,Ya⟩,hbf⟩
theorem zq2{w:World}{v:Value}{neg:Bool}{n k:Nat}(h:zcE w v neg n k)(hr:k<=17592186044416):
  Calls Tryz.prog 158 #[v] w fun e w'=>e=.returned (.int .i64 (zcD neg n))/\Below w.heap.size w w':=by
 obtain⟨a,c,l,rfl,h1,h2,h3,h4⟩:=h.ex;have hB0:=blA w (.cells #[.bool neg,.slice a l.length c] 89);obtain⟨H2,HB⟩:=hd2 (h2.below hB0) hB0;have hl:=h2.len;clear h h2 hB0
 by_cases hn:n=0
 ·subst hn;have HZ:=hid (zhs c h1 H2.out h3);clear h3
  go_enter Tryz.func158,Tryz.ntmps158
  go_wp2_with fail
  refine HZ.out.mono ?_
  rintro e w' ⟨rfl,rfl⟩;go_wp2;go_ret;exact⟨rfl,HB.out⟩
 ·have HZ:=hid (ziL c h1 H2.out h3 hn Ya);have HS:Hid (zcD neg n=if neg then -1 else 1):=by unfold Hid zcD;rw[Zh hn]
  clear h3 hn
  go_enter Tryz.func158,Tryz.ntmps158
  go_wp2_with fail
  refine HZ.out.mono ?_
  rintro e w' ⟨⟨m,rfl,hm1,hm2⟩,rfl⟩;have hz:((m:Int)==0)=false:=bn0 Ya
  cases neg with
  | false=>
   go_wp2;go_ret;exact⟨zaH HS.out.symm,HB.out⟩
  | true=>
   go_wp2;go_ret;exact⟨zaH HS.out.symm,HB.out⟩
theorem zfV(hg:za1 W g p q)(hh:za1 W h r s)(hb:Below W.heap.size W w1):
  w1.cell? ⟨g,0,none⟩=some p/\w1.cell? ⟨g,1,none⟩=some q/\w1.cell? ⟨h,0,none⟩=some r/\w1.cell? ⟨h,1,none⟩=some s:=
 ⟨(hb.cell hg.lt).trans hg.c0,(hb.cell hg.lt).trans hg.c1,(hb.cell hh.lt).trans hh.c0,(hb.cell hh.lt).trans hh.c1⟩
theorem zdn{l:List Nat}{x k1 k2:Nat}(hx:zo l=x)(hy:zo m=y)(h1:l.length<=k1)(h2:m.length<=k2)(hl:Lim l)(hm:Lim m):(ze (x*y)).length<=k1+k2:=by
 refine zaC (Zd (m:=4294967296^(l.length+m.length)) ?_ (ZE Ya Ya))
 rw[<- hx,<- hy,Zaf];exact Nat.mul_lt_mul'' (zcP hl) (zcP hm)
theorem zfu{w:World}{i:Nat}(hne:g≠h):(w.setCell ⟨g,i,none⟩ u).cell? ⟨h,o,none⟩=w.cell? ⟨h,o,none⟩:=ZC _ _ _ _ (by intro e;cases e;exact hne rfl)
theorem zge(hg:za1 W g p q)(hh:za1 W (g+1) r s)(hb:Below W.heap.size W w1)(u u':Value):
  ((w1.setCell ⟨g+1+1,0,none⟩ u).setCell ⟨g+1+1,1,none⟩ u').cell? ⟨g,0,none⟩=some p/\((w1.setCell ⟨g+1+1,0,none⟩ u).setCell ⟨g+1+1,1,none⟩ u').cell? ⟨g,1,none⟩=some q/\
  ((w1.setCell ⟨g+1+1,0,none⟩ u).setCell ⟨g+1+1,1,none⟩ u').cell? ⟨g+1,0,none⟩=some r/\((w1.setCell ⟨g+1+1,0,none⟩ u).setCell ⟨g+1+1,1,none⟩ u').cell? ⟨g+1,1,none⟩=some s:=by
 obtain⟨a,b,c,d⟩:=zfV hg hh hb
 refine⟨?_,?_,?_,?_⟩<;>rw[zfu Ya,zfu Ya]<;>assumption
structure Two (w W:World) (g:Nat) (p q r s:Value):Prop where
 a:za1 W g p q
 b:za1 W (g+1) r s
 bl:Below g w W
theorem Two.mk'(w:World)(p q r s:Value)(T:Nat):Two w ((w.alloc (.cells #[p,q] T)).alloc (.cells #[r,s] T)) w.heap.size p q r s:=by
 refine⟨(za1.alloc w p q T).below ((Zg _ _).alloc (Za _) _),?_,((Zg _ _).alloc (Za _) _).alloc Yd _⟩
 have:=za1.alloc (w.alloc (.cells #[p,q] T)) r s T
 simpa using this
theorem zsV{w:World}{v u:Value}{n1 n2:Bool}{x y k1 k2:Nat}(hv:zcE w v n1 x k1)(hu:zcE w u n2 y k2)(hr:k1+k2<=17592186044416):
  Calls Tryz.prog 175 #[v,u] w (zsJ w (n1 != n2) (x*y) (k1+k2)):=by
 obtain⟨a,c,l,rfl,h1,h2,h3,h4⟩:=hv.ex;obtain⟨b,d,m,rfl,g1,g2,g3,g4⟩:=hu.ex;have hl1:=h2.len;have hl2:=g2.len;obtain⟨H2,G2⟩:=hd2 h2 g2;clear hv hu h2 g2
 go_enter Tryz.func175,Tryz.ntmps175
 go_wp2_with fail
 have hT:=Two.mk' w (.bool n1) (.slice a l.length c) (.bool n2) (.slice b m.length d) 89;have hR:=za1.alloc ((w.alloc (.cells #[.bool n1,.slice a l.length c] 89)).alloc (.cells #[.bool n2,.slice b m.length d] 89)) (.bool false) (.slice none 0 0) 89;have hN:=zV.alloc ((w.alloc (.cells #[.bool n1,.slice a l.length c] 89)).alloc (.cells #[.bool n2,.slice b m.length d] 89)) #[.bool false,.slice none 0 0] 89 Yd;have hbA:Below ((w.alloc (.cells #[.bool n1,.slice a l.length c] 89)).alloc (.cells #[.bool n2,.slice b m.length d] 89)).heap.size ((w.alloc (.cells #[.bool n1,.slice a l.length c] 89)).alloc (.cells #[.bool n2,.slice b m.length d] 89)) _:=(Zg _ _).alloc (Za _) (.cells #[.bool false,.slice none 0 0] 89);have hXa:=hT.a.below hbA;have hXb:=hT.b.below hbA;have hB0:=hT.bl.trans (hbA.mono Yj);simp only[Zbe]at hR hN;generalize((w.alloc (.cells #[.bool n1,.slice a l.length c] 89)).alloc (.cells #[.bool n2,.slice b m.length d] 89)).alloc (.cells #[.bool false,.slice none 0 0] 89)=W at *;obtain⟨HXa,HXb,HR,HN,HB,H2W⟩:=hd6 hXa hXb hR hN hB0 (H2.out.below hB0);have G2W:=hid (G2.out.below hB0);have xbl:Below W.heap.size W W.drew:=(Zg _ _).drew;clear hT hR hN hbA hXa hXb hB0 H2 G2
 go_region_held3 (fun w'=>w'.cell? ⟨w.heap.size,0,none⟩=some (.bool n1)/\w'.cell? ⟨w.heap.size,1,none⟩=some (.slice a l.length c)/\w'.cell? ⟨w.heap.size+1,0,none⟩=some (.bool n2)/\w'.cell? ⟨w.heap.size+1,1,none⟩=some (.slice b m.length d))
  (first|exact zfV HXa.out HXb.out ‹Below W.heap.size W _› | exact zge HXa.out HXb.out ‹Below W.heap.size W _› _ _)
  (first
   | (go_at_call 161; have hS := ‹Below W.heap.size W _›; refine (zrY c d h1 g1 (H2W.out.below hS) (G2W.out.below hS) h3 g3 Ya).mono ?_; rintro e w1 ⟨a1, c1, rfl, p1, p2, p3⟩
      have hS1:=hS.trans (p3.mono hS.size))
   | (go_at_call 177; have hS := ‹Below W.heap.size W _›; refine (zn4 (n1 != n2) c1 (k1 + k2) p1 p2 (zi _) ?kk hr).mono ?_
      case kk=>exact zdn h3 g3 h4 g4 H2W.out.lim G2W.out.lim
      rintro e w2 ⟨v2,rfl,⟨a3,c3,l3,rfl,q1,q2,q3,q4⟩,q5⟩;have hS2:=hS.trans (q5.mono hS.size);obtain⟨r0,r1,rf,rlt⟩:=HR.out.below hS2;obtain⟨hN2,Q2⟩:=hd2 (HN.out.below hS2 HR.out.lt) q2;have hB2:=htr HB hS2))
 go_wp2;have hbf:=(hB2.out.setCell (p:=⟨w.heap.size+1+1,0,none⟩) (Zl (Zab _) (Zab _)) (.bool (n1 != n2 && !decide (x*y=0)))).setCell (p:=⟨w.heap.size+1+1,1,none⟩) (Zl (Zab _) (Zab _)) (.slice a3 l3.length c3)
 refine Zr (v:=.agg #[.bool (n1 != n2 && !decide (x*y=0)),.slice a3 l3.length c3]) (by simp[results,Tryz.results175,go_sem,r0,r1]) rfl ⟨_,rfl,⟨a3,c3,l3,Yd,q1,?_,q3,q4⟩,hbf⟩
 exact(Q2.out.setCell hN2.out _ _).setCell (hN2.out.setCell _ _ Yd) _ _
theorem zp9(b:Bool)(n:Nat):sgn (b && decide (n≠0)) n=sgn b n:=by
 by_cases h:n=0
 ·subst h;cases b<;>rfl
 ·simp[h]
theorem znK(b:Bool)(n:Nat):zcD (b && decide (n≠0)) n=zcD b n:=by
 by_cases h:n=0
 ·subst h;cases b<;>rfl
 ·simp[h]
theorem zjw{w:World}(h:RatV w v x)(hr:x.num.length<=17592186044416):Calls Tryz.prog 176 #[v] w (zsJ w x.neg (zo x.num) x.num.length):=by
 obtain⟨an,ad,cn,cd,rfl,h2,h3,h4,h5⟩:=h.ex;have hB0:Below w.heap.size w ((w.alloc (zcB x an cn ad cd 51)).alloc (.cells #[.bool false,.slice none 0 0] 89)):=
  ((Zg _ _).alloc (Za _) _).alloc Yd _
 have HM:=hid (zn4 x.neg cn x.num.length h2 (h4.below hB0) rfl (Za _) hr);have hR:=za1.alloc (w.alloc (zcB x an cn ad cd 51)) (.bool false) (.slice none 0 0) 89;have hN:=zV.alloc (w.alloc (zcB x an cn ad cd 51)) #[.bool false,.slice none 0 0] 89 Yd;simp only[Zbe]at hR hN;obtain⟨HR,HN,HB⟩:=hd3 hR hN hB0;clear h h4 h5 hB0 hR hN
 go_enter Tryz.func176,Tryz.ntmps176
 go_wp2_with fail
 refine HM.out.mono ?_
 rintro e w1 ⟨v1,rfl,⟨a1,c1,l1,rfl,p1,p2,p3,p4⟩,hb⟩;obtain⟨r0,r1,rf,rlt⟩:=HR.out.below hb;have HN1:=hid (HN.out.below hb HR.out.lt);have HB1:=htr HB hb;obtain⟨P2,P3⟩:=hd2 p2 p3;clear HM HR HN HB p2 hb p3;generalize hbb:(x.neg && decide (zo x.num≠0))=bb at *;have HBB:=hid hbb;clear hbb;go_wp2;have hbf:=(HB1.out.setCell (p:=⟨w.heap.size+1,0,none⟩) (Zab _) (.bool bb)).setCell (p:=⟨w.heap.size+1,1,none⟩) (Zab _) (.slice a1 l1.length c1);exact Zr (v:=.agg #[.bool bb,.slice a1 l1.length c1]) (by simp[results,Tryz.results176,go_sem,r0,r1]) rfl
  ⟨_,rfl,by rw[HBB.out];exact⟨a1,c1,l1,rfl,p1,(P2.out.setCell HN1.out _ _).setCell (HN1.out.setCell _ _ Yd) _ _,P3.out,p4⟩,hbf⟩
theorem zsu{w:World}(h:RatV w v x)(hr:x.num.length<=17592186044416):Calls Tryz.prog 162 #[v] w fun e w'=>e=.returned (.int .i64 (zcD x.neg (zo x.num)))/\Below w.heap.size w w':=by
 have HV:=hid h;obtain⟨an,ad,cn,cd,hv,h2,h3,h4,h5⟩:=h.ex;rw[hv]at HV⊢;have hB0:=blA w (zcB x an cn ad cd 51);obtain⟨HS,HB,HA⟩:=hd3 (zjw (HV.out.below hB0) hr) hB0 (znK x.neg (zo x.num));clear h hv h4 h5 hB0 HV
 go_enter Tryz.func162,Tryz.ntmps162
 go_wp2_with fail
 refine HS.out.mono ?_
 rintro e w1 ⟨v1,rfl,hI,hb⟩;generalize(x.neg && decide (zo x.num≠0))=bb at *;have HI:=hid (zq2 hI hr);have HB1:=htr HB hb;clear HS HB hI hb
 go_wp2_with fail
 refine HI.out.mono ?_
 rintro e w2 ⟨rfl,hb2⟩;go_wp2;go_ret;exact⟨zaH HA.out,HB1.out.trans (hb2.mono HB1.out.size)⟩
theorem zbW{B:Nat}{t:Value}(hg:zbn W g p q r)(hh:zbn W h s t u)(h1:g<B)(h2:h<B)(hb:Below B W w1):
  w1.cell? ⟨g,0,none⟩=some p/\w1.cell? ⟨g,1,none⟩=some q/\w1.cell? ⟨g,2,none⟩=some r/\w1.cell? ⟨h,0,none⟩=some s/\w1.cell? ⟨h,1,none⟩=some t/\w1.cell? ⟨h,2,none⟩=some u:=
 ⟨(hb.cell h1).trans hg.c0,(hb.cell h1).trans hg.c1,(hb.cell h1).trans hg.c2,(hb.cell h2).trans hh.c0,(hb.cell h2).trans hh.c1,(hb.cell h2).trans hh.c2⟩
theorem zkH(b:Bool)(n m:Nat):sgn ((b && decide (n≠0)) != false && decide (n*m≠0)) (n*m)=sgn b (n*m):=by
 rw[zp9,Bool.bne_false]
 by_cases h:n=0
 ·subst h;rw[Zbo];cases b<;>rfl
 ·simp[h]
theorem zV.far{w:World}(hn:zV w g)(hne:h≠g)(o:Nat)(v:Value):zV (w.setCell ⟨h,o,none⟩ v) g:=fun o' x e=>hn o' x ((zfu hne).symm.trans e)
structure zsv (w W:World) (g:Nat) (p q r s t u:Value):Prop where
 a:zbn W g p q r
 b:zbn W (g+1) s t u
 c:za1 W (g+1+1) (.bool false) (.slice none 0 0)
 d:za1 W (g+1+1+1) (.bool false) (.slice none 0 0)
 nc:zV W (g+1+1)
 nd:zV W (g+1+1+1)
 bl:Below g w W
theorem zsv.mk'(w:World)(p q r s t u:Value)(T T':Nat):zsv w ((((w.alloc (.cells #[p,q,r] T)).alloc (.cells #[s,t,u] T)).alloc (.cells #[.bool false,.slice none 0 0] T')).alloc (.cells #[.bool false,.slice none 0 0] T')) w.heap.size p q r s t u:=by
 have step:∀(W:World) (o:Obj),Below W.heap.size W (W.alloc o):=fun W o=>(Zg _ _).alloc (Za _) _
 have s1:=step w (.cells #[p,q,r] T);have s2:=step (w.alloc (.cells #[p,q,r] T)) (.cells #[s,t,u] T);have s3:=step ((w.alloc (.cells #[p,q,r] T)).alloc (.cells #[s,t,u] T)) (.cells #[.bool false,.slice none 0 0] T');have s4:=step (((w.alloc (.cells #[p,q,r] T)).alloc (.cells #[s,t,u] T)).alloc (.cells #[.bool false,.slice none 0 0] T')) (.cells #[.bool false,.slice none 0 0] T');have b1:=zbn.alloc w p q r T;have b2:=zbn.alloc (w.alloc (.cells #[p,q,r] T)) s t u T;have b3:=za1.alloc ((w.alloc (.cells #[p,q,r] T)).alloc (.cells #[s,t,u] T)) (.bool false) (.slice none 0 0) T';have b4:=za1.alloc (((w.alloc (.cells #[p,q,r] T)).alloc (.cells #[s,t,u] T)).alloc (.cells #[.bool false,.slice none 0 0] T')) (.bool false) (.slice none 0 0) T';have n3:=zV.alloc ((w.alloc (.cells #[p,q,r] T)).alloc (.cells #[s,t,u] T)) #[.bool false,.slice none 0 0] T' Yd;have n4:=zV.alloc (((w.alloc (.cells #[p,q,r] T)).alloc (.cells #[s,t,u] T)).alloc (.cells #[.bool false,.slice none 0 0] T')) #[.bool false,.slice none 0 0] T' Yd;have n3':=n3.below s4 Yd;have b1':=((b1.below s2).below s3).below s4;have b2':=(b2.below s3).below s4;have b3':=b3.below s4;have bl:=((s1.trans (s2.mono Yd)).trans (s3.mono Yj)).trans (s4.mono Yj);simp only[Zbe]at b2' b3' b4 n3' n4;exact⟨b1',b2',b3',b4,n3',n4,bl⟩
def ztf(w:World)(a b:zaI)(e:Ending)(w':World):Prop:=∃v u n1 n2,e=.returned (.tuple #[v,u])/\zcE w' v n1 (zo a.num*zw b.den) (a.num.length+b.den.length+1)/\zcE w' u n2 (zo b.num*zw a.den) (b.num.length+a.den.length+1)/\
 sgn n1 (zo a.num*zw b.den)=sgn a.neg (zo a.num*zw b.den)/\sgn n2 (zo b.num*zw a.den)=sgn b.neg (zo b.num*zw a.den)/\Below w.heap.size w w'
theorem zrD{w:World}{v u:Value}{x y:zaI}(hv:RatV w v x)(hu:RatV w u y)(h1:x.num.length<=1099511627776)(h2:x.den.length<=1099511627776)(h3:y.num.length<=1099511627776)(h4:y.den.length<=1099511627776):
  Calls Tryz.prog 159 #[v,u] w (ztf w x y):=by
 obtain⟨HV,HU⟩:=hd2 hv hu;obtain⟨an,ad,cn,cd,hve,a2,a3,a4,a5⟩:=hv.ex;obtain⟨bn,bd,dn,dd,hue,b2,b3,b4,b5⟩:=hu.ex;rw[hve]at HV⊢;rw[hue]at HU⊢;have hl1:=a4.len;have hl2:=a5.len;have hl3:=b4.len;have hl4:=b5.len;clear hv hu hve hue a4 a5 b4 b5
 go_enter Tryz.func159,Tryz.ntmps159
 go_wp2_with fail
 have hF:=zsv.mk' w (.bool x.neg) (.slice an x.num.length cn) (.slice ad x.den.length cd) (.bool y.neg) (.slice bn y.num.length dn) (.slice bd y.den.length dd) 51 89;generalize(((w.alloc (zcB x an cn ad cd 51)).alloc (zcB y bn dn bd dd 51)).alloc (.cells #[.bool false,.slice none 0 0] 89)).alloc (.cells #[.bool false,.slice none 0 0] 89)=W at *;obtain⟨HF,HVW,HUW⟩:=hd3 hF (HV.out.below hF.bl) (HU.out.below hF.bl);have k2:x.den.length<=17592186044416:=Ya;have k4:y.den.length<=17592186044416:=Ya;have hgW:Hid (w.heap.size+1+1+1<W.heap.size):=hF.d.lt;have xbl:Below W.heap.size W W.drew:=(Zg _ _).drew;have tok1:True:=trivial;clear hF HV HU
 go_region_held3 (fun w'=>w'.cell? ⟨w.heap.size,0,none⟩=some (.bool x.neg)/\w'.cell? ⟨w.heap.size,1,none⟩=some (.slice an x.num.length cn)/\w'.cell? ⟨w.heap.size,2,none⟩=some (.slice ad x.den.length cd)/\
   w'.cell? ⟨w.heap.size+1,0,none⟩=some (.bool y.neg)/\w'.cell? ⟨w.heap.size+1,1,none⟩=some (.slice bn y.num.length dn)/\w'.cell? ⟨w.heap.size+1,2,none⟩=some (.slice bd y.den.length dd))
  (first|exact zbW HF.out.a HF.out.b HF.out.a.lt HF.out.b.lt ‹Below W.heap.size W _›)
  (first
   | (go_at_call 150; have _t := tok1; clear tok1; have hS := ‹Below W.heap.size W _›; refine (zgF (HVW.out.below hS) k2).mono ?_; rintro e w1 ⟨a1, c1, l1, rfl, p1, p2, p3, p4, p5⟩
      have hS1:=hS.trans (p5.mono hS.size);have P2:=hid p2;have P3:=hid p3;clear p2 p3)
   | (go_at_call 150; have hS := ‹Below W.heap.size W _›; refine (zgF (HUW.out.below hS) k4).mono ?_; rintro e w2 ⟨a2, c2, l2, rfl, q1, q2, q3, q4, q5⟩
      have hS2:=hS.trans (q5.mono hS.size);have P2':=hid (P2.out.below q5);have Q2:=hid q2;have Q3:=hid q3;clear q2 q3))
 go_wp2_with fail
 obtain⟨Q2d,P2d⟩:=hd2 (Q2.out.below ((Zg w2.heap.size w2).drew)) (P2'.out.below ((Zg w2.heap.size w2).drew));have xbl2:Below W.heap.size W w2.drew:=hS2.drew;have hk1:x.num.length<=17592186044416:=Ya;have hk3:y.num.length<=17592186044416:=Ya;have IQ:∀wv:World,zt wv a2 l2->zcE wv (.agg #[.bool false,.slice a2 l2.length c2]) false (zw y.den) (y.den.length+1):=fun _ hh=>⟨a2,c2,l2,rfl,q1,hh,Q3.out,q4⟩
 have IP:∀wv:World,zt wv a1 l1->zcE wv (.agg #[.bool false,.slice a1 l1.length c1]) false (zw x.den) (x.den.length+1):=fun _ hh=>⟨a1,c1,l1,rfl,p1,hh,P3.out,p4⟩
 obtain⟨HIQ,HIP⟩:=hd2 IQ IP;have tok3:True:=trivial;have tok4:True:=trivial;clear Q2 P2' P2 hS1 xbl hS2 p5 q5 IQ IP
 go_region_held3 (fun w'=>w'.cell? ⟨w.heap.size,0,none⟩=some (.bool x.neg)/\w'.cell? ⟨w.heap.size,1,none⟩=some (.slice an x.num.length cn)/\w'.cell? ⟨w.heap.size,2,none⟩=some (.slice ad x.den.length cd)/\
   w'.cell? ⟨w.heap.size+1,0,none⟩=some (.bool y.neg)/\w'.cell? ⟨w.heap.size+1,1,none⟩=some (.slice bn y.num.length dn)/\w'.cell? ⟨w.heap.size+1,2,none⟩=some (.slice bd y.den.length dd))
  (first
   | exact zbW HF.out.a HF.out.b HF.out.a.lt HF.out.b.lt ‹Below W.heap.size W _›
   | exact zbW (B:=w.heap.size+1+1) HF.out.a HF.out.b (Nat.lt_succ_of_lt (Zai _)) (Zai _) (((hS6.mono (Z6 HF.out.c.lt)).setCell (p:=⟨w.heap.size+1+1,0,none⟩) (Za _) _).setCell (p:=⟨w.heap.size+1+1,1,none⟩) (Za _) _)
   | exact zbW (B:=w.heap.size+1+1) HF.out.a HF.out.b (Nat.lt_succ_of_lt (Zai _)) (Zai _) (((((hS6.mono (Z6 HF.out.c.lt)).setCell (p:=⟨w.heap.size+1+1,0,none⟩) (Za _) _).setCell (p:=⟨w.heap.size+1+1,1,none⟩) (Za _) _).setCell (p:=⟨w.heap.size+1+1+1,0,none⟩) (Zab _) _).setCell (p:=⟨w.heap.size+1+1+1,1,none⟩) (Zab _) _))
  (first
   | (go_at_call 176; have _t := tok3; clear tok3; have hS := ‹Below W.heap.size W _›; refine (zjw (HVW.out.below hS) hk1).mono ?_; rintro e w3 ⟨v3, rfl, i3, hb3⟩
      have hS3:=hS.trans (hb3.mono hS.size);have I3:=hid i3;have Q2e:=hid (Q2d.out.below hb3);have P2e:=hid (P2d.out.below hb3);clear i3)
   | (go_at_call 175; have _t := tok4; clear tok4; have hS := ‹Below W.heap.size W _›; refine (zsV I3.out (HIQ.out _ Q2e.out) Ya).mono ?_; rintro e w4 ⟨v4, rfl, ⟨a4, c4, l4, rfl, m1, m2, m3, m4⟩, hb4⟩
      have hS4:=hS.trans (hb4.mono hS.size);have M2:=hid m2;have P2f:=hid (P2e.out.below hb4);clear m2;generalize hn4:((x.neg && decide (zo x.num≠0)) != false && decide (zo x.num*zw y.den≠0))=nn1;have N4:=hid hn4;have M3:=hid m3;clear hn4 m3)
   | (go_at_call 176; have hS := ‹Below W.heap.size W _›; refine (zjw (HUW.out.below hS) hk3).mono ?_; rintro e w5 ⟨v5, rfl, i5, hb5⟩
      have hS5:=hS.trans (hb5.mono hS.size);have I5:=hid i5;have P2g:=hid (P2f.out.below hb5);have M2':=hid (M2.out.below hb5);clear i5)
   | (go_at_call 175; have hS := ‹Below W.heap.size W _›; refine (zsV I5.out (HIP.out _ P2g.out) Ya).mono ?_; rintro e w6 ⟨v6, rfl, ⟨a6, c6, l6, rfl, t1, t2, t3, t4⟩, hb6⟩
      have hS6:=hS.trans (hb6.mono hS.size);have T2:=hid t2;have M2'':=hid (M2'.out.below hb6);clear t2;generalize hn6:((y.neg && decide (zo y.num≠0)) != false && decide (zo y.num*zw x.den≠0))=nn2;have N6:=hid hn6;have T3:=hid t3;clear hn6 t3;obtain⟨r0,r1,rf,rlt⟩:=HF.out.c.below hS6;obtain⟨s0,s1,sf,slt⟩:=HF.out.d.below hS6))
 obtain⟨hBf,hn1,hn2⟩:=hd3 (HF.out.bl.trans (hS6.mono Yy)) (HF.out.nc.below hS6 HF.out.c.lt) (HF.out.nd.below hS6 HF.out.d.lt);go_wp2;have hbf:=(((hBf.out.setCell (p:=⟨w.heap.size+1+1,0,none⟩) (Zl (Zab _) (Zab _)) (.bool nn1)).setCell (p:=⟨w.heap.size+1+1,1,none⟩) (Zl (Zab _) (Zab _)) (.slice a4 l4.length c4)).setCell
  (p:=⟨w.heap.size+1+1+1,0,none⟩) (Zl (Zab _) (Zl (Zab _) (Zab _))) (.bool nn2)).setCell (p:=⟨w.heap.size+1+1+1,1,none⟩) (Zl (Zab _) (Zl (Zab _) (Zab _))) (.slice a6 l6.length c6)
 have c1':((w6.setCell ⟨w.heap.size+1+1,0,none⟩ (.bool nn1)).setCell ⟨w.heap.size+1+1,1,none⟩ (.slice a4 l4.length c4)).cell? ⟨w.heap.size+1+1+1,0,none⟩=some (.bool false):=by rw[zfu Ya,zfu Ya];exact s0
 have c2':((w6.setCell ⟨w.heap.size+1+1,0,none⟩ (.bool nn1)).setCell ⟨w.heap.size+1+1,1,none⟩ (.slice a4 l4.length c4)).cell? ⟨w.heap.size+1+1+1,1,none⟩=some (.slice none 0 0):=by rw[zfu Ya,zfu Ya];exact s1
 have hn2':=hn2.out.far (h:=w.heap.size+1+1) Ya 0 (.bool nn1);have hn2'':=hn2'.far (h:=w.heap.size+1+1) Ya 1 (.slice a4 l4.length c4);have hn3:=hn2''.setCell 0 (.bool nn2) Yd;have q1:=((M2''.out.setCell hn1.out 0 (.bool nn1)).setCell (hn1.out.setCell _ _ Yd) 1 (.slice a4 l4.length c4))
 have q2:=(q1.setCell hn2'' 0 (.bool nn2)).setCell hn3 1 (.slice a6 l6.length c6);have t1':=((T2.out.setCell hn1.out 0 (.bool nn1)).setCell (hn1.out.setCell _ _ Yd) 1 (.slice a4 l4.length c4))
 have t2':=(t1'.setCell hn2'' 0 (.bool nn2)).setCell hn3 1 (.slice a6 l6.length c6)
 refine Zr (v:=.tuple #[.agg #[.bool nn1,.slice a4 l4.length c4],.agg #[.bool nn2,.slice a6 l6.length c6]]) ?_ rfl ⟨_,_,nn1,nn2,rfl,⟨a4,c4,l4,rfl,m1,q2,M3.out,Ya⟩,⟨a6,c6,l6,rfl,t1,t2',T3.out,Ya⟩,?_,?_,hbf⟩
 ·simp[results,Tryz.results159,go_sem,r0,r1,c1',c2',zfu]
 ·rw[<- N4.out];exact zkH _ _ _
 ·rw[<- N6.out];exact zkH _ _ _
def zim(n lo hi:Int):Bool:=decide (lo<=n/\n<=hi)
theorem zkA{n lo hi:Int}:zim n lo hi=true ↔ lo<=n/\n<=hi:=by unfold zim;rw[Zy]
structure zN (w:World) (a:Option Addr) (L:List zaI):Prop where
 len:L.length<=9223372036854775807
 row:L=[] ∨ ∃b off,a=some ⟨b,off,none⟩/\b<w.heap.size/\∀(j:Nat) (x:zaI),L[j]? =some x->∃(an ad:Option Addr) (cn cd:Nat),w.cell? ⟨b,off+j*3,none⟩=some (.bool x.neg)/\w.cell? ⟨b,off+j*3+1,none⟩=some (.slice an x.num.length cn)/\w.cell? ⟨b,off+j*3+2,none⟩=some (.slice ad x.den.length cd)/\
  RatV w (.agg #[.bool x.neg,.slice an x.num.length cn,.slice ad x.den.length cd]) x
theorem zN.below{w:World}{a:Option Addr}(h:zN w a L)(hb:Below w.heap.size w w'):zN w' a L:=by
 refine⟨h.len,h.row.imp id ?_⟩
 rintro⟨b,off,rfl,hs,hc⟩
 refine⟨b,off,rfl,Zd hs hb.size,fun j x hj=>?_⟩
 obtain⟨an,ad,cn,cd,h1,h2,h3,h4⟩:=hc j x hj;exact⟨an,ad,cn,cd,(hb.cell hs).trans h1,(hb.cell hs).trans h2,(hb.cell hs).trans h3,h4.below hb⟩
theorem zN.pick{w:World}{a:Option Addr}(h:zN w a L)(hk:k<L.length):
  ∃b off x an ad cn cd,a=some ⟨b,off,none⟩/\b<w.heap.size/\L[k]? =some x/\w.cell? ⟨b,off+k*3,none⟩=some (.bool x.neg)/\w.cell? ⟨b,off+k*3+1,none⟩=some (.slice an x.num.length cn)/\w.cell? ⟨b,off+k*3+2,none⟩=some (.slice ad x.den.length cd)/\
   RatV w (.agg #[.bool x.neg,.slice an x.num.length cn,.slice ad x.den.length cd]) x:=by
 rcases h.row with rfl|⟨b,off,rfl,hb,hc⟩
 ·simp at hk
 ·have hd:L[k]? =some L[k]:=Vy;obtain⟨an,ad,cn,cd,h1,h2,h3,h4⟩:=hc k _ hd;exact⟨b,off,L[k],an,ad,cn,cd,rfl,hb,hd,h1,h2,h3,h4⟩
theorem zaq{α:Type}{l:List α}{x:α}(hx:l[k]? =some x):l.take (k+1)=l.take k++[x]:=by
 rw[Zat,hx];rfl
structure zae where
 kind:Int
 frm:Int
 out:Int
 kh:Int
 kw:Int
 stride:Int
 pad:Int
 weights:List zaI
 bias:List zaI
abbrev zbu(l:zae)(b1:Option Addr)(d1:Nat)(b2:Option Addr)(d2:Nat)(T:Nat):Obj:=.cells #[.int .i64 l.kind,.int .i64 l.frm,.int .i64 l.out,.int .i64 l.kh,.int .i64 l.kw,.int .i64 l.stride,.int .i64 l.pad,.slice b1 l.weights.length d1,.slice b2 l.bias.length d2] T
structure zgt where
 input:List Int
 layers:List zae
structure zcG (w:World) (v:Value) (l:zae):Prop where
 ex:∃(a1 a2:Option Addr) (c1 c2:Nat),v=.agg #[.int .i64 l.kind,.int .i64 l.frm,.int .i64 l.out,.int .i64 l.kh,.int .i64 l.kw,.int .i64 l.stride,.int .i64 l.pad,.slice a1 l.weights.length c1,.slice a2 l.bias.length c2]/\zN w a1 l.weights/\zN w a2 l.bias
theorem zcG.below{w:World}{l:zae}(h:zcG w v l)(hb:Below w.heap.size w w'):zcG w' v l:=by
 obtain⟨a1,a2,c1,c2,e,h1,h2⟩:=h.ex;exact⟨a1,a2,c1,c2,e,h1.below hb,h2.below hb⟩
def zjM(w:World)(b o:Nat)(l:zae):Prop:=∃(a1 a2:Option Addr) (c1 c2:Nat),
 (w.cell? ⟨b,o,none⟩=some (.int .i64 l.kind)/\w.cell? ⟨b,o+1,none⟩=some (.int .i64 l.frm)/\w.cell? ⟨b,o+2,none⟩=some (.int .i64 l.out)/\w.cell? ⟨b,o+3,none⟩=some (.int .i64 l.kh)/\
  w.cell? ⟨b,o+4,none⟩=some (.int .i64 l.kw)/\w.cell? ⟨b,o+5,none⟩=some (.int .i64 l.stride)/\w.cell? ⟨b,o+6,none⟩=some (.int .i64 l.pad)/\w.cell? ⟨b,o+7,none⟩=some (.slice a1 l.weights.length c1)/\w.cell? ⟨b,o+8,none⟩=some (.slice a2 l.bias.length c2))/\
 zN w a1 l.weights/\zN w a2 l.bias
theorem zjM.below{w:World}{b:Nat}{l:zae}(h:zjM w b o l)(hl:b<w.heap.size)(hb:Below w.heap.size w w'):zjM w' b o l:=by
 obtain⟨a1,a2,c1,c2,⟨h0,h1,h2,h3,h4,h5,h6,h7,h8⟩,k1,k2⟩:=h;exact⟨a1,a2,c1,c2,⟨(hb.cell hl).trans h0,(hb.cell hl).trans h1,(hb.cell hl).trans h2,(hb.cell hl).trans h3,(hb.cell hl).trans h4,(hb.cell hl).trans h5,(hb.cell hl).trans h6,(hb.cell hl).trans h7,(hb.cell hl).trans h8⟩,k1.below hb,k2.below hb⟩
structure zaO (w:World) (a:Option Addr) (L:List zae):Prop where
 len:L.length<=9223372036854775807
 row:L=[] ∨ ∃b off,a=some ⟨b,off,none⟩/\b<w.heap.size/\∀(j:Nat) (x:zae),L[j]? =some x->zjM w b (off+j*9) x
theorem zaO.below{w:World}{a:Option Addr}{L:List zae}(h:zaO w a L)(hb:Below w.heap.size w w'):zaO w' a L:=by
 refine⟨h.len,h.row.imp id ?_⟩
 rintro⟨b,off,rfl,hs,hc⟩;exact⟨b,off,rfl,Zd hs hb.size,fun j x hj=>(hc j x hj).below hs hb⟩
theorem zaO.pick{w:World}{a:Option Addr}{L:List zae}(h:zaO w a L)(hk:k<L.length):
  ∃b off x,a=some ⟨b,off,none⟩/\b<w.heap.size/\L[k]? =some x/\zjM w b (off+k*9) x:=by
 rcases h.row with rfl|⟨b,off,rfl,hb,hc⟩
 ·simp at hk
 ·have hd:L[k]? =some L[k]:=Vy;exact⟨b,off,L[k],rfl,hb,hd,hc k _ hd⟩
theorem zaO.nil(w:World)(a:Option Addr):zaO w a []:=⟨Yd,.inl rfl⟩
structure znl (w:World) (g:Nat) (p0 p1 p2 p3 p4 p5 p6 p7 p8:Value):Prop where
 c0:w.cell? ⟨g,0,none⟩=some p0
 c1:w.cell? ⟨g,1,none⟩=some p1
 c2:w.cell? ⟨g,2,none⟩=some p2
 c3:w.cell? ⟨g,3,none⟩=some p3
 c4:w.cell? ⟨g,4,none⟩=some p4
 c5:w.cell? ⟨g,5,none⟩=some p5
 c6:w.cell? ⟨g,6,none⟩=some p6
 c7:w.cell? ⟨g,7,none⟩=some p7
 c8:w.cell? ⟨g,8,none⟩=some p8
 lt:g<w.heap.size
theorem znl.below{w:World}{p0 p1 p2 p3 p4 p5 p6 p7 p8:Value}(h:znl w g p0 p1 p2 p3 p4 p5 p6 p7 p8)(hb:Below w.heap.size w w'):znl w' g p0 p1 p2 p3 p4 p5 p6 p7 p8:=
 ⟨(hb.cell h.lt).trans h.c0,(hb.cell h.lt).trans h.c1,(hb.cell h.lt).trans h.c2,(hb.cell h.lt).trans h.c3,(hb.cell h.lt).trans h.c4,(hb.cell h.lt).trans h.c5,(hb.cell h.lt).trans h.c6,(hb.cell h.lt).trans h.c7,(hb.cell h.lt).trans h.c8,Zd h.lt hb.size⟩
theorem znl.alloc(w:World)(p0 p1 p2 p3 p4 p5 p6 p7 p8:Value)(T:Nat):znl (w.alloc (.cells #[p0,p1,p2,p3,p4,p5,p6,p7,p8] T)) w.heap.size p0 p1 p2 p3 p4 p5 p6 p7 p8:=by
 refine⟨?_,?_,?_,?_,?_,?_,?_,?_,?_,Yd⟩<;>(rw[World.cell?_alloc_at _ _ _ _ rfl];rfl)
def zcS(n:Int):Bool:=decide (1<=n) && decide (n<=64)
def zdb(l:zae):Bool:=zcS l.kh && (zcS l.kw && zcS l.stride)
def zgT(l:zae):Bool:=decide (1<=l.out) && decide (l.out<=16384)
def ziD(l:zae)(n:Int):Bool:=decide ((l.bias.length:Int)=l.out) && (decide (0<l.weights.length) && (decide (l.weights.length<=16384) && decide ((l.weights.length:Int)%n=0)))
def zh3(l:zae):Bool:=decide (l.weights=[]) && decide (l.bias=[])
def zcQ(l:zae)(i:Int):Bool:=
 if l.kind=1 then zgT l && (ziD l l.out && decide (l.frm=0/\l.kh=0/\l.kw=0/\l.stride=0/\l.pad=0))
 else if l.kind=2 then zgT l && (zdb l && (decide (0<=l.pad) && (decide (l.pad<l.kh) && (decide (l.pad<l.kw) && (ziD l (l.out*l.kh*l.kw) && decide (l.frm=0))))))
 else if l.kind=3∨l.kind=4 then zdb l && (decide (l.frm=0/\l.out=0/\l.pad=0) && zh3 l)
 else if l.kind=5∨l.kind=6 then decide (l.frm=0/\l.out=0/\l.kh=0/\l.kw=0/\l.stride=0/\l.pad=0) && zh3 l
 else if l.kind=7 then decide (-1<=l.frm) && (decide (l.frm<i) && (decide (l.out=0/\l.kh=0/\l.kw=0/\l.stride=0/\l.pad=0) && zh3 l))
 else false
def zem(l:zae):Bool:=l.weights.all zL && l.bias.all zL
def zag(l:zae)(i:Int):Bool:=zcQ l i && zem l
def zak:List zae->Int->Bool
 | [],_=>true
 | l::r,i=>zag l i && zak r (i+1)
def zbl(m:zgt):Bool:=zm m.input && (decide (m.layers.length<=64) && zak m.layers 0)
def zbH:zae:=⟨5,0,0,0,0,0,0,[],[]⟩
theorem zls(i:Int):zag zbH i=true:=by
 simp[zag,zcQ,zbH,zem,zh3]
theorem zgO(A B:List zae)(i:Int):zak (A++B) i=(zak A i && zak B (i+A.length)):=by
 induction A generalizing i with
 | nil=>simp[zak]
 | cons a r ih=>
  show(zag a i && zak (r++B) (i+1))=((zag a i && zak r (i+1)) && zak B (i+((r.length+1:Nat):Int)))
  have e:i+1+(r.length:Int)=i+((r.length+1:Nat):Int):=Ya;rw[ih,Bool.and_assoc,e]
theorem zig(n:Nat)(i:Int):zak (List.replicate n zbH) i=true:=by
 induction n generalizing i with
 | zero=>rfl
 | succ n ih=>
  rw[List.replicate_succ];show(zag zbH i && zak (List.replicate n zbH) (i+1))=true
  rw[zls,ih];rfl
theorem zfx(input:List Int)(n:Nat)(l:zae):zbl ⟨input,List.replicate n zbH++[l]⟩=(zm input && (decide (n+1<=64) && zag l n)):=by
 unfold zbl;simp only[zgO,zig,ZB,Za1,ZJ,ZaK,zak,Bool.and_true,Z0,Int.zero_add,ZO]
theorem zjB{L:List zae}{i:Int}{j:Nat}{l:zae}(h:zak L i=true)(hj:L[j]? =some l):zag l (i+j)=true:=by
 induction L generalizing i j with
 | nil=>simp at hj
 | cons a r ih=>
  unfold zak at h;rw[Zw]at h
  cases j with
  | zero=>simp at hj;subst hj;simpa using h.1
  | succ j=>
   have:=ih h.2 (j:=j) Ua;rw[show i+((j+1:Nat):Int)=i+1+(j:Int)from Ya];exact this
theorem ziU{m:zgt}(h:zbl m=true):zm m.input=true/\m.layers.length<=64/\∀(j:Nat) (l:zae),m.layers[j]? =some l->zag l j=true:=by
 unfold zbl at h;simp only[Zw,Zy]at h
 refine⟨h.1,h.2.1,fun j l hj=>?_⟩
 have:=zjB h.2.2 hj
 simpa using this
def zk(input:List Int)(shapes:List (List Int)):List Int:=shapes.getLast?.getD input
def zaz(s:List Int)(l:zae):Int×Int×Int:=(zA s l.kh l.kw l.stride l.pad).2
def za5(input:List Int)(shapes:List (List Int))(l:zae):List Int×Bool:=
 if l.kind=1 then([l.out],decide ((l.weights.length:Int)=l.out*zJ (zk input shapes)))
 else if l.kind=2 then([l.out,(zaz (zk input shapes) l).1,(zaz (zk input shapes) l).2.1],decide ((zaz (zk input shapes) l).2.2=0) && decide ((l.weights.length:Int)=l.out*(zk input shapes).getD 0 0*l.kh*l.kw))
 else if l.kind=3∨l.kind=4 then([(zk input shapes).getD 0 0,(zaz (zk input shapes) l).1,(zaz (zk input shapes) l).2.1],decide ((zaz (zk input shapes) l).2.2=0))
 else if l.kind=6 then([zJ (zk input shapes)],true)
 else if l.kind=7 then(zk input shapes,zbY (if 0<=l.frm then shapes.getD l.frm.toNat []else input) (zk input shapes))
 else(zk input shapes,true)
def zY(input:List Int)(shapes:List (List Int))(l:zae):List Int×Int:=
 if(zm input && (decide (shapes.length+1<=64) && zag l shapes.length)) && shapes.all zm then
  (if(za5 input shapes l).2 && zm (za5 input shapes l).1 then((za5 input shapes l).1,0)else([],7))
 else([],1)
def zT(input:List Int):List (List Int)->List zae->List (List Int)×Int×Int
 | S,[]=>(S,0,0)
 | S,l::r=>if(zY input S l).2=0 then zT input (S++[(zY input S l).1]) r else([],S.length,(zY input S l).2)
def zab(m:zgt):List (List Int)×Int×Int:=if zbl m then zT m.input [] m.layers else([],0,1)
abbrev b9l(w:World)(l:zae)(x:Option Addr)(i:Nat)(y:Option Addr)(j T:Nat):=znl.alloc w (.int .i64 l.kind) (.int .i64 l.frm) (.int .i64 l.out) (.int .i64 l.kh) (.int .i64 l.kw) (.int .i64 l.stride) (.int .i64 l.pad) (.slice x l.weights.length i) (.slice y l.bias.length j) T
theorem zqH(n:Int)(w:World):Calls Tryz.prog 149 #[.int .i64 n] w fun e w'=>e=.returned (.bool (zcS n))/\w=w':=by
 by_cases h1:1<=n
 ·by_cases h2:n<=64
  ·have HS:=hid (show zcS n=true by simp[zcS,h1,h2])
   go_enter Tryz.func149,Tryz.ntmps149
   go_wp2;go_ret;exact EN
  ·have HS:=hid (show zcS n=false by simp[zcS,h2])
   go_enter Tryz.func149,Tryz.ntmps149
   go_wp2;go_ret;exact EN
 ·have HS:=hid (show zcS n=false by simp[zcS,h1])
  go_enter Tryz.func149,Tryz.ntmps149
  go_wp2;go_ret;exact EN
theorem zpg{w:World}{a b:Option Addr}{l:List Nat}(c d:Nat)(h:zt w a l)(g:zt w b m):
  Calls Tryz.prog 165 #[.slice a l.length c,.slice b m.length d] w fun e w'=>e=.returned (.bool (decide (l=m)))/\Below w.heap.size w w':=by
 have hl:=h.len;have hm:=g.len;obtain⟨HA,HB,HBn⟩:=hd3 h g (fun n=>Below.drewN_refl w n);clear h g
 go_enter Tryz.func165,Tryz.ntmps165
 by_cases he:l.length=m.length
 ·have HE:=hid he;have hlb:decide (¬ (l.length:Int)=(m.length:Int))=false:=Yj;have hlc:((l.length:Int)==(m.length:Int))=true:=Yj;have hge1:l.length<=m.length:=Ya;have hge2:m.length<=l.length:=Ya;go_wp2
  go_loopw [5,13] (fun _ i wr=>∃j:Nat,j<=l.length/\i=.int .i64 (j:Int)/\Hid (l.take j=m.take j)/\Hid (∃n,wr=w.drewN n)) (fun _ i _=>l.length-(intOf i).toNat)
  case atStart=>exact⟨0,Zs _,rfl,XB,0,rfl⟩
  case round=>
   obtain⟨j,hj,rfl,HT,HN⟩:=hrel;obtain⟨nd,rfl⟩:=HN.out
   by_cases hlt:j<l.length
   ·have hltm:j<m.length:=Ya;obtain⟨p1,o1,rfl,_,cA⟩:=HA.out.pick hlt;obtain⟨p2,o2,rfl,_,cB⟩:=HB.out.pick hltm;obtain⟨TA,TB,GA,GB⟩:=hd4 (zaq (zdQ hlt)) (zaq (zdQ hltm)) (zdQ hlt) (zdQ hltm);generalize dig l j=x at *;generalize dig m j=y at *
    by_cases hxy:x=y
    ·exact El
    ·have hne:Hid (decide (l=m)=false):=by
      unfold Hid;rw[Zac];rintro rfl;have h1:=GA.out.symm.trans GB.out;cases h1;exact hxy rfl
     have hxb:((x:Int)==(y:Int))=false:=bn0 Ya;go_wp2
     go_quiet (fail)
     go_wp2;go_ret;exact⟨VB,by rw[World.drewN_drewN];exact HBn.out _⟩
   ·obtain rfl:j=l.length:=Ya;have he2:Hid (decide (l=m)=true):=Ef;go_wp2;go_ret;exact⟨by rw[he2.out];rfl,HBn.out _⟩
 ·have hne:Hid (decide (l=m)=false):=ED;go_wp2;go_ret;exact⟨VB,Zg _ _⟩
def zpo(x y:zaI):Bool:=(x.neg==y.neg) && (decide (x.num=y.num) && decide (x.den=y.den))
theorem zqr(x y:zaI):zpo x y=decide (x=y):=by
 unfold zpo;rw[ZY];simp only[Zw,ZaC,Zy]
 constructor
 ·rintro⟨h1,h2,h3⟩;cases x;cases y;simp only at h1 h2 h3;rw[h1,h2,h3]
 ·rintro rfl;exact⟨rfl,rfl,rfl⟩
theorem zrp{w:World}{v u:Value}{x y:zaI}(hv:RatV w v x)(hu:RatV w u y):
  Calls Tryz.prog 164 #[v,u] w fun e w'=>e=.returned (.bool (decide (x=y)))/\Below w.heap.size w w':=by
 rw[<- zqr];obtain⟨an,ad,cn,cd,rfl,a2,a3,a4,a5⟩:=hv.ex;obtain⟨bn,bd,dn,dd,rfl,b2,b3,b4,b5⟩:=hu.ex;have q1:=a4.len;have q2:=a5.len;have q3:=b4.len;have q4:=b5.len;obtain⟨H4,H5,G4,G5⟩:=hd4 a4 a5 b4 b5;clear hv hu a4 a5 b4 b5
 go_enter Tryz.func164,Tryz.ntmps164
 go_upto_region 1 with fail
 have hbA:=blA w (zcB x an cn ad cd 51);have hx:=zbn.alloc w (.bool x.neg) (.slice an x.num.length cn) (.slice ad x.den.length cd) 51;generalize hW:w.alloc (zcB x an cn ad cd 51)=W at *;have hsz:W.heap.size=w.heap.size+1:=by rw[<- hW];simp
 have hbB:=blA W (zcB y bn dn bd dd 51);have hy:=zbn.alloc W (.bool y.neg) (.slice bn y.num.length dn) (.slice bd y.den.length dd) 51;rw[hsz]at hy;generalize W.alloc (zcB y bn dn bd dd 51)=V at *;obtain⟨HX,HY,HB⟩:=hd3 (hx.below hbB) hy (hbA.trans (hbB.mono hbA.size));clear hx hy hbA hbB hW hsz;obtain⟨x0,x1,x2,_,xlt⟩:=HX.out;obtain⟨y0,y1,y2,_,ylt⟩:=HY.out
 cases e1:(x.neg==y.neg)with
 | false=>
  have HR:Hid (zpo x y=false):=by unfold Hid zpo;rw[e1];rfl
  go_wp2;go_ret;exact Th
 | true=>
  have HC:=hid (zpg cn dn (H4.out.below HB.out) (G4.out.below HB.out))
  cases e2:decide (x.num=y.num)with
  | false=>
   have HR:Hid (zpo x y=false):=by unfold Hid zpo;rw[e1,e2];rfl
   rw[e2]at HC;clear e2
   go_wp2_with fail
   refine HC.out.mono ?_
   rintro e w1 ⟨rfl,hb1⟩;have HB1:=htr HB hb1;clear hb1 x0 x1 x2 y0 y1 y2;go_wp2;go_ret;exact⟨zj HR.out.symm,HB1.out⟩
  | true=>
   have HR:Hid (zpo x y=decide (x.den=y.den)):=by unfold Hid zpo;rw[e1,e2];rfl
   rw[e2]at HC;clear e2
   go_wp2_with fail
   refine HC.out.mono ?_
   rintro e w1 ⟨rfl,hb1⟩;have HB1:=htr HB hb1;obtain⟨z0,z1,z2,_,zlt⟩:=HX.out.below hb1;obtain⟨t0,t1,t2,_,tlt⟩:=HY.out.below hb1;have HC2:=hid (zpg cd dd (H5.out.below HB1.out) (G5.out.below HB1.out));generalize decide (x.den=y.den)=R at *;clear hb1 x0 x1 x2 y0 y1 y2
   go_wp2_with fail
   refine HC2.out.mono ?_
   rintro e w2 ⟨rfl,hb2⟩;have HB2:=htr HB1 hb2;clear hb2 z0 z1 z2 t0 t1 t2;go_wp2;go_ret;exact Uw
theorem zk2{w:World}{a b:Option Addr}(c d:Nat)(h:zN w a L)(g:zN w b M):
  Calls Tryz.prog 163 #[.slice a L.length c,.slice b M.length d,.func (.func 164) #[] #[]] w fun e w'=>e=.returned (.bool (decide (L=M)))/\Below w.heap.size w w':=by
 have hl:=h.len;have hm:=g.len;obtain⟨HA,HG⟩:=hd2 h g;clear h g
 by_cases he:L.length=M.length
 ·have HE:=hid he;have hlb:decide (¬ (L.length:Int)=(M.length:Int))=false:=Yj;have hlc:((L.length:Int)==(M.length:Int))=true:=Yj;have hld:((L.length:Int) != (M.length:Int))=false:=VW;have hge1:L.length<=M.length:=Ya;have hge2:M.length<=L.length:=Ya
  go_enter Tryz.func163,Tryz.ntmps163
  clear he;go_wp2
  go_loopw [7,8,9,17] (fun _ _ _ i wr=>∃j:Nat,j<=L.length/\i=.int .i64 (j:Int)/\Hid (L.take j=M.take j)/\Hid (Below w.heap.size w wr)) (fun _ _ _ i _=>L.length-(intOf i).toNat)
  case atStart=>exact⟨0,Zs _,rfl,XB,Zg _ _⟩
  case round=>
   obtain⟨j,hj,rfl,HT,HB⟩:=hrel
   by_cases hlt:j<L.length
   ·have hltm:j<M.length:=Ya;obtain⟨b1,o1,x,an,ad,cn,cd,rfl,hb1,hx,p0,p1,p2,hv⟩:=(HA.out.below HB.out).pick hlt;obtain⟨b2,o2,y,bn,bd,dn,dd,rfl,hb2,hy,r0,r1,r2,hu⟩:=(HG.out.below HB.out).pick hltm;obtain⟨HXx,HYy,TA,TB,HC⟩:=hd5 hx hy (zaq hx) (zaq hy) (fun wv (hb:Below wr.heap.size wr wv)=>zrp (hv.below hb) (hu.below hb));have hal:=blA wr (zcB x an cn ad cd 51);have hal2:=hal.trans (((Zg _ (wr.alloc (zcB x an cn ad cd 51))).alloc (Za _) (zcB y bn dn bd dd 51)).mono hal.size);have HAl:=hid hal2;clear hx hy hv hu hal hal2
    go_wp2_with fail
    refine(HC.out _ HAl.out).mono ?_
    rintro e w2 ⟨rfl,hw2⟩;have HB2:=hid (HB.out.trans ((HAl.out.trans (hw2.mono HAl.out.size)).mono HB.out.size));clear hw2 HAl HC p0 p1 p2 r0 r1 r2
    by_cases hxy:x=y
    ·have e1:decide (x=y)=true:=Zk hxy;have HXY:=hid hxy;clear hxy;go_wp2;go_roundw
     case rel=>exact⟨j+1,hlt,Yg,KY,HB2.out⟩
     case measure=>simp[intOf];omega
    ·have e1:decide (x=y)=false:=Zo hxy;have hne:Hid (decide (L=M)=false):=by
      unfold Hid;rw[Zac];rintro rfl;have h1:=HXx.out.symm.trans HYy.out;cases h1;exact hxy rfl
     clear hxy;go_wp2;go_ret;exact⟨zj hne.out.symm,HB2.out⟩
   ·obtain rfl:j=L.length:=Ya;have he2:Hid (decide (L=M)=true):=Ef;go_wp2;go_ret;exact⟨zj he2.out.symm,HB.out⟩
 ·have hne:Hid (decide (L=M)=false):=ED
  go_enter Tryz.func163,Tryz.ntmps163
  go_wp2;go_ret;exact⟨zj hne.out.symm,Zg _ _⟩
theorem zrH{w:World}{a b:Option Addr}(c d:Nat)(h:zN w a L)(g:zN w b M):
  Calls Tryz.prog 148 #[.slice a L.length c,.slice b M.length d] w fun e w'=>e=.returned (.bool (decide (L=M)))/\Below w.heap.size w w':=by
 have HC:=hid (zk2 c d h g);have hl:=h.len;have hm:=g.len;generalize decide (L=M)=R at *;clear h g
 go_enter Tryz.func148,Tryz.ntmps148
 go_wp2_with fail
 refine HC.out.mono ?_
 rintro e w2 ⟨rfl,hw2⟩;go_wp2;go_ret;exact⟨rfl,hw2⟩
def zaB(l m:zae):Bool:=(l.kind==m.kind) && ((l.frm==m.frm) && ((l.out==m.out) && ((l.kh==m.kh) && ((l.kw==m.kw) && ((l.stride==m.stride) && ((l.pad==m.pad) && (decide (l.weights=m.weights) && decide (l.bias=m.bias))))))))
theorem zN.nil(w:World)(a:Option Addr):zN w a []:=⟨Yd,.inl rfl⟩
structure zes (w:World) (p f:Nat):Prop where
 cell:w.cell? ⟨p,0,none⟩=some (.func (.func f) #[] #[])
 lt:p<w.heap.size
theorem zes.below{w:World}{p f:Nat}(h:zes w p f)(hb:Below w.heap.size w w'):zes w' p f:=⟨(hb.cell h.lt).trans h.cell,Zd h.lt hb.size⟩
theorem zr3{w:World}{v u:Value}{l m:zae}(hv:zcG w v l)(hu:zcG w u m):
  Calls Tryz.prog 112 #[v,u] w fun e w'=>e=.returned (.bool (zaB l m))/\Below w.heap.size w w':=by
 obtain⟨a1,a2,c1,c2,rfl,r1,r2⟩:=hv.ex;obtain⟨b1,b2,d1,d2,rfl,s1,s2⟩:=hu.ex;have q1:=r1.len;have q2:=r2.len;have q3:=s1.len;have q4:=s2.len;obtain⟨R1,R2,S1,S2⟩:=hd4 r1 r2 s1 s2;clear hv hu r1 r2 s1 s2
 go_enter Tryz.func112,Tryz.ntmps112
 go_upto_region 1 with fail
 have hbA:=blA w (.cells #[.int .i64 l.kind,.int .i64 l.frm,.int .i64 l.out,.int .i64 l.kh,.int .i64 l.kw,.int .i64 l.stride,.int .i64 l.pad,.slice a1 l.weights.length c1,.slice a2 l.bias.length c2] 44);have hx:=b9l w l a1 c1 a2 c2 44;generalize hW:w.alloc (.cells #[.int .i64 l.kind,.int .i64 l.frm,.int .i64 l.out,.int .i64 l.kh,.int .i64 l.kw,.int .i64 l.stride,.int .i64 l.pad,.slice a1 l.weights.length c1,.slice a2 l.bias.length c2] 44)=W at *;have hsz:W.heap.size=w.heap.size+1:=by rw[<- hW];simp
 have hbB:=blA W (.cells #[.int .i64 m.kind,.int .i64 m.frm,.int .i64 m.out,.int .i64 m.kh,.int .i64 m.kw,.int .i64 m.stride,.int .i64 m.pad,.slice b1 m.weights.length d1,.slice b2 m.bias.length d2] 44);have hy:=b9l W m b1 d1 b2 d2 44;rw[hsz]at hy;generalize W.alloc (.cells #[.int .i64 m.kind,.int .i64 m.frm,.int .i64 m.out,.int .i64 m.kh,.int .i64 m.kw,.int .i64 m.stride,.int .i64 m.pad,.slice b1 m.weights.length d1,.slice b2 m.bias.length d2] 44)=V at *;obtain⟨HX,HY,HB⟩:=hd3 (hx.below hbB) hy (hbA.trans (hbB.mono hbA.size));clear hx hy hbA hbB hW hsz;obtain⟨x0,x1,x2,x3,x4,x5,x6,x7,x8,xlt⟩:=HX.out;obtain⟨y0,y1,y2,y3,y4,y5,y6,y7,y8,ylt⟩:=HY.out
 cases e1:(l.kind==m.kind)with
 | false=>
  have HR:Hid (zaB l m=false):=by unfold Hid zaB;rw[e1];rfl
  go_wp2;go_ret;exact Th
 | true=>
  cases e2:(l.frm==m.frm)with
  | false=>
   have HR:Hid (zaB l m=false):=by unfold Hid zaB;rw[e1,e2];rfl
   go_wp2;go_ret;exact Th
  | true=>
   cases e3:(l.out==m.out)with
   | false=>
    have HR:Hid (zaB l m=false):=by unfold Hid zaB;rw[e1,e2,e3];rfl
    go_wp2;go_ret;exact Th
   | true=>
    cases e4:(l.kh==m.kh)with
    | false=>
     have HR:Hid (zaB l m=false):=by unfold Hid zaB;rw[e1,e2,e3,e4];rfl
     go_wp2;go_ret;exact Th
    | true=>
     cases e5:(l.kw==m.kw)with
     | false=>
      have HR:Hid (zaB l m=false):=by unfold Hid zaB;rw[e1,e2,e3,e4,e5];rfl
      go_wp2;go_ret;exact Th
     | true=>
      cases e6:(l.stride==m.stride)with
      | false=>
       have HR:Hid (zaB l m=false):=by unfold Hid zaB;rw[e1,e2,e3,e4,e5,e6];rfl
       go_wp2;go_ret;exact Th
      | true=>
       cases e7:(l.pad==m.pad)with
       | false=>
        have HR:Hid (zaB l m=false):=KM;go_wp2;go_ret;exact Th
       | true=>
        have HR0:Hid (zaB l m=(decide (l.weights=m.weights) && decide (l.bias=m.bias))):=KM;have HC:=hid (zrH c1 d1 (R1.out.below HB.out) (S1.out.below HB.out))
        cases e8:decide (l.weights=m.weights)with
        | false=>
         have HR:Hid (zaB l m=false):=by unfold Hid;rw[HR0.out,e8];rfl
         rw[e8]at HC;clear e8
         go_wp2_with fail
         refine HC.out.mono ?_
         rintro e w1 ⟨rfl,hb1⟩;have HB1:=htr HB hb1;clear hb1 x0 x1 x2 x3 x4 x5 x6 x7 x8 y0 y1 y2 y3 y4 y5 y6 y7 y8;go_wp2;go_ret;exact⟨zj HR.out.symm,HB1.out⟩
        | true=>
         have HR:Hid (zaB l m=decide (l.bias=m.bias)):=by unfold Hid;rw[HR0.out,e8];rfl
         rw[e8]at HC;clear e8
         go_wp2_with fail
         refine HC.out.mono ?_
         rintro e w1 ⟨rfl,hb1⟩;have HB1:=htr HB hb1;clear x0 x1 x2 x3 x4 x5 x6 x7 x8 y0 y1 y2 y3 y4 y5 y6 y7 y8;obtain⟨x0,x1,x2,x3,x4,x5,x6,x7,x8,xlt⟩:=HX.out.below hb1;obtain⟨y0,y1,y2,y3,y4,y5,y6,y7,y8,ylt⟩:=HY.out.below hb1;have HC2:=hid (zrH c2 d2 (R2.out.below HB1.out) (S2.out.below HB1.out));generalize decide (l.bias=m.bias)=R at *;clear hb1
         go_wp2_with fail
         refine HC2.out.mono ?_
         rintro e w2 ⟨rfl,hb2⟩;have HB2:=htr HB1 hb2;clear hb2 x0 x1 x2 x3 x4 x5 x6 x7 x8 y0 y1 y2 y3 y4 y5 y6 y7 y8;go_wp2;go_ret;exact Uw
theorem znb{w:World}{l m:zae}(hv:zcG w v l)(hu:zcG w u m):
  Calls Tryz.prog 111 #[v,u] w fun e w'=>e=.returned (.bool (zaB l ⟨l.kind,m.frm,m.out,m.kh,m.kw,m.stride,m.pad,m.weights,m.bias⟩))/\Below w.heap.size w w':=by
 obtain⟨a1,a2,c1,c2,rfl,r1,r2⟩:=hv.ex;obtain⟨b1,b2,d1,d2,rfl,s1,s2⟩:=hu.ex;have q1:=r1.len;have q2:=r2.len;have q3:=s1.len;have q4:=s2.len;have hb:Below w.heap.size w ((w.alloc (.cells #[.int .i64 l.kind,.int .i64 l.frm,.int .i64 l.out,.int .i64 l.kh,.int .i64 l.kw,.int .i64 l.stride,.int .i64 l.pad,.slice a1 l.weights.length c1,.slice a2 l.bias.length c2] 44)).alloc (.cells #[.int .i64 l.kind,.int .i64 m.frm,.int .i64 m.out,.int .i64 m.kh,.int .i64 m.kw,.int .i64 m.stride,.int .i64 m.pad,.slice b1 m.weights.length d1,.slice b2 m.bias.length d2] 44)):=((Zg _ _).alloc (Za _) _).alloc Yd _;obtain⟨HB,HC⟩:=hd2 hb (zr3 (w:=(w.alloc (.cells #[.int .i64 l.kind,.int .i64 l.frm,.int .i64 l.out,.int .i64 l.kh,.int .i64 l.kw,.int .i64 l.stride,.int .i64 l.pad,.slice a1 l.weights.length c1,.slice a2 l.bias.length c2] 44)).alloc (.cells #[.int .i64 l.kind,.int .i64 m.frm,.int .i64 m.out,.int .i64 m.kh,.int .i64 m.kw,.int .i64 m.stride,.int .i64 m.pad,.slice b1 m.weights.length d1,.slice b2 m.bias.length d2] 44)) (l:=l) (m:=⟨l.kind,m.frm,m.out,m.kh,m.kw,m.stride,m.pad,m.weights,m.bias⟩) ⟨a1,a2,c1,c2,rfl,r1.below hb,r2.below hb⟩ ⟨b1,b2,d1,d2,rfl,s1.below hb,s2.below hb⟩);clear hv hu r1 r2 s1 s2 hb
 go_enter Tryz.func111,Tryz.ntmps111
 go_wp2_with fail
 refine HC.out.mono ?_
 rintro e w1 ⟨rfl,hb1⟩;have HB1:=htr HB hb1;clear hb1 HC HB;go_wp2;go_ret;exact⟨rfl,HB1.out⟩
theorem zsQ{w:World}{l:zae}(hv:zcG w v l):Calls Tryz.prog 110 #[v] w fun e w'=>e=.returned (.bool (zgT l))/\Below w.heap.size w w':=by
 obtain⟨a1,a2,c1,c2,rfl,r1,r2⟩:=hv.ex;have hb:=blA w (.cells #[.int .i64 l.kind,.int .i64 l.frm,.int .i64 l.out,.int .i64 l.kh,.int .i64 l.kw,.int .i64 l.stride,.int .i64 l.pad,.slice a1 l.weights.length c1,.slice a2 l.bias.length c2] 44);have HB:=hid hb;generalize hR:zgT l=R;unfold zgT at hR;generalize l.out=n at *;clear hv r1 r2 hb
 by_cases h1:1<=n
 ·by_cases h2:n<=16384
  ·rw[Zk h1,Zk h2]at hR;have HR:=hid hR;clear hR
   go_enter Tryz.func110,Tryz.ntmps110
   go_wp2;go_ret;exact TQ
  ·rw[Zk h1,Zo h2]at hR;have HR:=hid hR;clear hR
   go_enter Tryz.func110,Tryz.ntmps110
   go_wp2;go_ret;exact TQ
 ·rw[Zo h1]at hR;have HR:=hid hR;clear hR
  go_enter Tryz.func110,Tryz.ntmps110
  go_wp2;go_ret;exact TQ
theorem zmC{w:World}{v:Value}{l:zae}(hv:zcG w v l):Calls Tryz.prog 114 #[v] w fun e w'=>e=.returned (.bool (zdb l))/\Below w.heap.size w w':=by
 obtain⟨a1,a2,c1,c2,rfl,r1,r2⟩:=hv.ex;have hb:=blA w (.cells #[.int .i64 l.kind,.int .i64 l.frm,.int .i64 l.out,.int .i64 l.kh,.int .i64 l.kw,.int .i64 l.stride,.int .i64 l.pad,.slice a1 l.weights.length c1,.slice a2 l.bias.length c2] 44);have HB:=hid hb;generalize hR:zdb l=R;unfold zdb at hR;obtain⟨C1,C2,C3⟩:=hd3 (fun W=>zqH l.kh W) (fun W=>zqH l.kw W) (fun W=>zqH l.stride W);clear hv r1 r2 hb
 cases e1:zcS l.kh with
 | false=>
  rw[e1]at hR C1;have HR:=hid hR;clear hR e1
  go_enter Tryz.func114,Tryz.ntmps114
  go_wp2_with (first|(go_at_call 149;(with_reducible refine(C1.out _).mono ?_);rintro e w' ⟨rfl,rfl⟩))
  go_ret;exact TQ
 | true=>
  rw[e1]at hR C1
  cases e2:zcS l.kw with
  | false=>
   rw[e2]at hR C2;have HR:=hid hR;clear hR e1 e2
   go_enter Tryz.func114,Tryz.ntmps114
   go_wp2_with fail
   refine(C1.out _).mono ?_
   rintro e w' ⟨rfl,rfl⟩
   go_wp2_with fail
   refine(C2.out _).mono ?_
   rintro e w' ⟨rfl,rfl⟩;go_wp2;go_ret;exact TQ
  | true=>
   rw[e2]at hR C2;generalize zcS l.stride=z at *;have HR:=hid hR;clear hR e1 e2
   go_enter Tryz.func114,Tryz.ntmps114
   go_wp2_with fail
   refine(C1.out _).mono ?_
   rintro e w' ⟨rfl,rfl⟩
   go_wp2_with fail
   refine(C2.out _).mono ?_
   rintro e w' ⟨rfl,rfl⟩
   go_wp2_with fail
   refine(C3.out _).mono ?_
   rintro e w' ⟨rfl,rfl⟩;go_wp2;go_ret;exact TQ
theorem zkl{w:World}{l:zae}(hv:zcG w v l)(n:Int)(h1:1<=n)(h2:n<=1000000000):Calls Tryz.prog 117 #[v,.int .i64 n] w fun e w'=>e=.returned (.bool (ziD l n))/\Below w.heap.size w w':=by
 obtain⟨a1,a2,c1,c2,rfl,r1,r2⟩:=hv.ex;have hb:=blA w (.cells #[.int .i64 l.kind,.int .i64 l.frm,.int .i64 l.out,.int .i64 l.kh,.int .i64 l.kw,.int .i64 l.stride,.int .i64 l.pad,.slice a1 l.weights.length c1,.slice a2 l.bias.length c2] 44);have HB:=hid hb;have q1:=r1.len;have q2:=r2.len;generalize hR:ziD l n=R;unfold ziD at hR;clear hv r1 r2 hb
 by_cases e1:(l.bias.length:Int)=l.out
 ·have t1:((l.bias.length:Int)==l.out)=true:=Vb;rw[Zk e1]at hR;clear e1
  by_cases e2:0<l.weights.length
  ·by_cases e3:l.weights.length<=16384
   ·rw[Zk e2,Zk e3]at hR
    by_cases e4:(l.weights.length:Int)%n=0
    ·have t4:((l.weights.length:Int)%n==0)=true:=by rw[ZaC];exact e4
     rw[Zk e4]at hR;have HR:=hid hR;clear hR e4
     go_enter Tryz.func117,Tryz.ntmps117
     go_wp2;go_ret;exact TQ
    ·have t4:((l.weights.length:Int)%n==0)=false:=by rw[Z7];exact e4
     rw[Zo e4]at hR;have HR:=hid hR;clear hR e4
     go_enter Tryz.func117,Tryz.ntmps117
     go_wp2;go_ret;exact TQ
   ·rw[Zk e2,Zo e3]at hR;have HR:=hid hR;clear hR
    go_enter Tryz.func117,Tryz.ntmps117
    go_wp2;go_ret;exact TQ
  ·rw[Zo e2]at hR;have HR:=hid hR;clear hR
   go_enter Tryz.func117,Tryz.ntmps117
   go_wp2;go_ret;exact TQ
 ·have t1:((l.bias.length:Int)==l.out)=false:=Ky;rw[Zo e1]at hR;have HR:=hid hR;clear hR e1
  go_enter Tryz.func117,Tryz.ntmps117
  go_wp2;go_ret;exact TQ
theorem zr7{w:World}{l:zae}(hv:zcG w v l)(i:Int){p:Nat}(hpp:zes w p 111):
  Calls Tryz.prog 115 #[v,.int .i64 i,.pointer (some ⟨p,0,none⟩)] w fun e w'=>e=.returned (.bool (zaB l ⟨l.kind,0,0,0,0,0,0,[],[]⟩))/\Below w.heap.size w w':=by
 obtain⟨a1,a2,c1,c2,rfl,r1,r2⟩:=hv.ex;have HV:=hid hv;have q1:=r1.len;have q2:=r2.len;obtain⟨R1,R2⟩:=hd2 r1 r2;generalize hRr:(zaB l ⟨l.kind,0,0,0,0,0,0,[],[]⟩)=RR;obtain⟨HRd,HPp⟩:=hd2 hRr hpp;clear hRr hv r1 r2 hpp
 go_enter Tryz.func115,Tryz.ntmps115
 go_upto_region 1 with fail
 have hb0:=blA w (zbu l a1 c1 a2 c2 44);have hx:=b9l w l a1 c1 a2 c2 44;generalize w.alloc (zbu l a1 c1 a2 c2 44)=W at *;obtain⟨HB,HX,HW0⟩:=hd3 hb0 hx (Zg W.heap.size W);clear hx hb0;obtain⟨x0,x1,x2,x3,x4,x5,x6,x7,x8,xlt⟩:=HX.out;obtain⟨pp,lp⟩:=HPp.out.below HB.out;have HR:Hid (zaB l ⟨l.kind,0,0,0,0,0,0,[],[]⟩=RR):=HRd.out;have HCo:=hid (znb (m:=⟨0,0,0,0,0,0,0,[],[]⟩) ((HV.out.below HB.out).below HW0.out) (u:=.agg #[.int .i64 0,.int .i64 0,.int .i64 0,.int .i64 0,.int .i64 0,.int .i64 0,.int .i64 0,.slice none 0 0,.slice none 0 0]) ⟨none,none,0,0,rfl,zN.nil _ _,zN.nil _ _⟩);generalize zaB l ⟨l.kind,0,0,0,0,0,0,[],[]⟩=R at *
 go_wp2_with fail
 refine HCo.out.mono ?_
 rintro e w1 ⟨rfl,hb1⟩;have HW1:=htr HW0 hb1;clear hb1 x0 x1 x2 x3 x4 x5 x6 x7 x8 pp lp;obtain⟨x0,x1,x2,x3,x4,x5,x6,x7,x8,xlt1⟩:=HX.out.below HW1.out;obtain⟨pp,lp⟩:=(HPp.out.below HB.out).below HW1.out;go_wp2;go_ret;exact TM
theorem zsb{w:World}{v:Value}{l:zae}(hv:zcG w v l)(i:Int){p:Nat}(hpp:zes w p 111):
  Calls Tryz.prog 113 #[v,.int .i64 i,.pointer (some ⟨p,0,none⟩)] w fun e w'=>e=.returned (.bool (zdb l && zaB l ⟨l.kind,0,0,l.kh,l.kw,l.stride,0,[],[]⟩))/\Below w.heap.size w w':=by
 obtain⟨a1,a2,c1,c2,rfl,r1,r2⟩:=hv.ex;have HV:=hid hv;have q1:=r1.len;have q2:=r2.len;obtain⟨R1,R2⟩:=hd2 r1 r2;generalize hRr:(zdb l && zaB l ⟨l.kind,0,0,l.kh,l.kw,l.stride,0,[],[]⟩)=RR;obtain⟨HRd,HPp⟩:=hd2 hRr hpp;clear hRr hv r1 r2 hpp
 go_enter Tryz.func113,Tryz.ntmps113
 go_upto_region 1 with fail
 have hb0:=blA w (zbu l a1 c1 a2 c2 44);have hx:=b9l w l a1 c1 a2 c2 44;generalize w.alloc (zbu l a1 c1 a2 c2 44)=W at *;obtain⟨HB,HX,HW0⟩:=hd3 hb0 hx (Zg W.heap.size W);clear hx hb0;obtain⟨x0,x1,x2,x3,x4,x5,x6,x7,x8,xlt⟩:=HX.out;obtain⟨pp,lp⟩:=HPp.out.below HB.out;have HC:=hid (zmC ((HV.out.below HB.out).below HW0.out))
 cases e1:zdb l with
 | false=>
  have HR:Hid (false=RR):=X7;rw[e1]at HC;clear e1
  go_wp2_with fail
  refine HC.out.mono ?_
  rintro e w1 ⟨rfl,hb1⟩;have HW1:=htr HW0 hb1;clear hb1 x0 x1 x2 x3 x4 x5 x6 x7 x8 pp lp;obtain⟨x0,x1,x2,x3,x4,x5,x6,x7,x8,xlt1⟩:=HX.out.below HW1.out;obtain⟨pp,lp⟩:=(HPp.out.below HB.out).below HW1.out;go_wp2;go_ret;exact TM
 | true=>
  have HR:Hid (zaB l ⟨l.kind,0,0,l.kh,l.kw,l.stride,0,[],[]⟩=RR):=X7;rw[e1]at HC;clear e1
  go_wp2_with fail
  refine HC.out.mono ?_
  rintro e w1 ⟨rfl,hb1⟩;have HW1:=htr HW0 hb1;clear hb1 x0 x1 x2 x3 x4 x5 x6 x7 x8 pp lp;obtain⟨x0,x1,x2,x3,x4,x5,x6,x7,x8,xlt1⟩:=HX.out.below HW1.out;obtain⟨pp,lp⟩:=(HPp.out.below HB.out).below HW1.out;have HCo:=hid (znb (m:=⟨0,0,0,l.kh,l.kw,l.stride,0,[],[]⟩) ((HV.out.below HB.out).below HW1.out) (u:=.agg #[.int .i64 0,.int .i64 0,.int .i64 0,.int .i64 l.kh,.int .i64 l.kw,.int .i64 l.stride,.int .i64 0,.slice none 0 0,.slice none 0 0]) ⟨none,none,0,0,rfl,zN.nil _ _,zN.nil _ _⟩);generalize zaB l ⟨l.kind,0,0,l.kh,l.kw,l.stride,0,[],[]⟩=R at *
  go_wp2_with fail
  refine HCo.out.mono ?_
  rintro e w2 ⟨rfl,hb2⟩;have HW2:=htr HW1 hb2;clear hb2 x0 x1 x2 x3 x4 x5 x6 x7 x8 pp lp;obtain⟨x0,x1,x2,x3,x4,x5,x6,x7,x8,xlt2⟩:=HX.out.below HW2.out;obtain⟨pp,lp⟩:=(HPp.out.below HB.out).below HW2.out;go_wp2;go_ret;exact T4
theorem ztj{w:World}{l:zae}(hv:zcG w v l)(i:Int){p:Nat}(hpp:zes w p 111):
  Calls Tryz.prog 119 #[v,.int .i64 i,.pointer (some ⟨p,0,none⟩)] w fun e w'=>e=.returned (.bool (decide (-1<=l.frm) && (decide (l.frm<i) && zaB l ⟨l.kind,l.frm,0,0,0,0,0,[],[]⟩)))/\Below w.heap.size w w':=by
 obtain⟨a1,a2,c1,c2,rfl,r1,r2⟩:=hv.ex;have HV:=hid hv;have q1:=r1.len;have q2:=r2.len;obtain⟨R1,R2⟩:=hd2 r1 r2;generalize hRr:(decide (-1<=l.frm) && (decide (l.frm<i) && zaB l ⟨l.kind,l.frm,0,0,0,0,0,[],[]⟩))=RR;obtain⟨HRd,HPp⟩:=hd2 hRr hpp;clear hRr hv r1 r2 hpp
 go_enter Tryz.func119,Tryz.ntmps119
 go_upto_region 1 with fail
 have hb0:=blA w (zbu l a1 c1 a2 c2 44);have hx:=b9l w l a1 c1 a2 c2 44;generalize w.alloc (zbu l a1 c1 a2 c2 44)=W at *;obtain⟨HB,HX,HW0⟩:=hd3 hb0 hx (Zg W.heap.size W);clear hx hb0;obtain⟨x0,x1,x2,x3,x4,x5,x6,x7,x8,xlt⟩:=HX.out;obtain⟨pp,lp⟩:=HPp.out.below HB.out
 by_cases e1: -1<=l.frm
 ·by_cases e2:l.frm<i
  ·have HR:Hid (zaB l ⟨l.kind,l.frm,0,0,0,0,0,[],[]⟩=RR):=by unfold Hid;rw[<- HRd.out,Zk e1,Zk e2];rfl
   have HCo:=hid (znb (m:=⟨0,l.frm,0,0,0,0,0,[],[]⟩) ((HV.out.below HB.out).below HW0.out) (u:=.agg #[.int .i64 0,.int .i64 l.frm,.int .i64 0,.int .i64 0,.int .i64 0,.int .i64 0,.int .i64 0,.slice none 0 0,.slice none 0 0]) ⟨none,none,0,0,rfl,zN.nil _ _,zN.nil _ _⟩);generalize zaB l ⟨l.kind,l.frm,0,0,0,0,0,[],[]⟩=R at *
   go_wp2_with fail
   refine HCo.out.mono ?_
   rintro e w1 ⟨rfl,hb1⟩;have HW1:=htr HW0 hb1;clear hb1 x0 x1 x2 x3 x4 x5 x6 x7 x8 pp lp;obtain⟨x0,x1,x2,x3,x4,x5,x6,x7,x8,xlt1⟩:=HX.out.below HW1.out;obtain⟨pp,lp⟩:=(HPp.out.below HB.out).below HW1.out;go_wp2;go_ret;exact TM
  ·have HR:Hid (false=RR):=by unfold Hid;rw[<- HRd.out,Zk e1,Zo e2];rfl
   go_wp2;go_ret;exact⟨zj HR.out,HB.out.trans (HW0.out.mono HB.out.size)⟩
 ·have HR:Hid (false=RR):=K0;go_wp2;go_ret;exact⟨zj HR.out,HB.out.trans (HW0.out.mono HB.out.size)⟩
theorem zqU{w:World}{v:Value}{l:zae}(hv:zcG w v l)(i:Int){po pn:Nat}(hppo:zes w po 110)(hppn:zes w pn 111):
  Calls Tryz.prog 116 #[v,.int .i64 i,.pointer (some ⟨po,0,none⟩),.pointer (some ⟨pn,0,none⟩)] w fun e w'=>e=.returned (.bool (zgT l && (ziD l l.out && zaB l ⟨l.kind,0,l.out,0,0,0,0,l.weights,l.bias⟩)))/\Below w.heap.size w w':=by
 obtain⟨a1,a2,c1,c2,rfl,r1,r2⟩:=hv.ex;have HV:=hid hv;have q1:=r1.len;have q2:=r2.len;obtain⟨R1,R2⟩:=hd2 r1 r2;generalize hRr:(zgT l && (ziD l l.out && zaB l ⟨l.kind,0,l.out,0,0,0,0,l.weights,l.bias⟩))=RR;obtain⟨HRd,HPpo,HPpn⟩:=hd3 hRr hppo hppn;clear hRr hv r1 r2 hppo hppn
 go_enter Tryz.func116,Tryz.ntmps116
 go_upto_region 1 with fail
 have hb0:=blA w (zbu l a1 c1 a2 c2 44);have hx:=b9l w l a1 c1 a2 c2 44;generalize w.alloc (zbu l a1 c1 a2 c2 44)=W at *;obtain⟨HB,HX,HW0⟩:=hd3 hb0 hx (Zg W.heap.size W);clear hx hb0;obtain⟨x0,x1,x2,x3,x4,x5,x6,x7,x8,xlt⟩:=HX.out;obtain⟨ppo,lpo⟩:=HPpo.out.below HB.out;obtain⟨ppn,lpn⟩:=HPpn.out.below HB.out;have HC:=hid (zsQ ((HV.out.below HB.out).below HW0.out))
 cases e1:zgT l with
 | false=>
  have HR:Hid (false=RR):=X7;rw[e1]at HC;clear e1
  go_wp2_with fail
  refine HC.out.mono ?_
  rintro e w1 ⟨rfl,hb1⟩;have HW1:=htr HW0 hb1;clear hb1 x0 x1 x2 x3 x4 x5 x6 x7 x8 ppo lpo ppn lpn;obtain⟨x0,x1,x2,x3,x4,x5,x6,x7,x8,xlt1⟩:=HX.out.below HW1.out;obtain⟨ppo,lpo⟩:=(HPpo.out.below HB.out).below HW1.out;obtain⟨ppn,lpn⟩:=(HPpn.out.below HB.out).below HW1.out;go_wp2;go_ret;exact TM
 | true=>
  rw[e1]at HC;have HE1:=hid e1;obtain⟨o1,o2⟩:1<=l.out/\l.out<=16384:=by unfold zgT at e1;simpa using e1
  clear e1
  go_wp2_with fail
  refine HC.out.mono ?_
  rintro e w1 ⟨rfl,hb1⟩;have HW1:=htr HW0 hb1;clear hb1 x0 x1 x2 x3 x4 x5 x6 x7 x8 ppo lpo ppn lpn;obtain⟨x0,x1,x2,x3,x4,x5,x6,x7,x8,xlt1⟩:=HX.out.below HW1.out;obtain⟨ppo,lpo⟩:=(HPpo.out.below HB.out).below HW1.out;obtain⟨ppn,lpn⟩:=(HPpn.out.below HB.out).below HW1.out;have HC2:=hid (zkl ((HV.out.below HB.out).below HW1.out) l.out o1 Ya)
  cases e2:ziD l l.out with
  | false=>
   have HR:Hid (false=RR):=XO;rw[e2]at HC2;clear e2
   go_wp2_with fail
   refine HC2.out.mono ?_
   rintro e w2 ⟨rfl,hb2⟩;have HW2:=htr HW1 hb2;clear hb2 x0 x1 x2 x3 x4 x5 x6 x7 x8 ppo lpo ppn lpn;obtain⟨x0,x1,x2,x3,x4,x5,x6,x7,x8,xlt2⟩:=HX.out.below HW2.out;obtain⟨ppo,lpo⟩:=(HPpo.out.below HB.out).below HW2.out;obtain⟨ppn,lpn⟩:=(HPpn.out.below HB.out).below HW2.out;go_wp2;go_ret;exact T4
  | true=>
   have HR:Hid (zaB l ⟨l.kind,0,l.out,0,0,0,0,l.weights,l.bias⟩=RR):=XO;rw[e2]at HC2;clear e2
   go_wp2_with fail
   refine HC2.out.mono ?_
   rintro e w2 ⟨rfl,hb2⟩;have HW2:=htr HW1 hb2;clear hb2 x0 x1 x2 x3 x4 x5 x6 x7 x8 ppo lpo ppn lpn;obtain⟨x0,x1,x2,x3,x4,x5,x6,x7,x8,xlt2⟩:=HX.out.below HW2.out;obtain⟨ppo,lpo⟩:=(HPpo.out.below HB.out).below HW2.out;obtain⟨ppn,lpn⟩:=(HPpn.out.below HB.out).below HW2.out;have HCo:=hid (znb (m:=⟨0,0,l.out,0,0,0,0,l.weights,l.bias⟩) ((HV.out.below HB.out).below HW2.out) (u:=.agg #[.int .i64 0,.int .i64 0,.int .i64 l.out,.int .i64 0,.int .i64 0,.int .i64 0,.int .i64 0,.slice a1 l.weights.length c1,.slice a2 l.bias.length c2]) ⟨a1,a2,c1,c2,rfl,(R1.out.below HB.out).below HW2.out,(R2.out.below HB.out).below HW2.out⟩);generalize zaB l ⟨l.kind,0,l.out,0,0,0,0,l.weights,l.bias⟩=R at *
   go_wp2_with fail
   refine HCo.out.mono ?_
   rintro e w3 ⟨rfl,hb3⟩;have HW3:=htr HW2 hb3;clear hb3 x0 x1 x2 x3 x4 x5 x6 x7 x8 ppo lpo ppn lpn;obtain⟨x0,x1,x2,x3,x4,x5,x6,x7,x8,xlt3⟩:=HX.out.below HW3.out;obtain⟨ppo,lpo⟩:=(HPpo.out.below HB.out).below HW3.out;obtain⟨ppn,lpn⟩:=(HPpn.out.below HB.out).below HW3.out;go_wp2;go_ret;exact⟨zj HR.out,HB.out.trans (HW3.out.mono HB.out.size)⟩
theorem znG{a b c:Int}(a1:1<=a)(a2:a<=16384)(b1:1<=b)(b2:b<=64)(c1:1<=c)(c2:c<=64):(1<=a*b/\a*b<=1048576)/\1<=a*b*c/\a*b*c<=67108864:=by
 have h1:1*1<=a*b:=ZaB a1 b1 Ya Ya;have h2:a*b<=16384*64:=ZaB a2 b2 Ya Ya;have h3:1*1<=a*b*c:=ZaB Ya c1 Ya Ya;have h4:a*b*c<=1048576*64:=ZaB Ya c2 Ya Ya;omega
theorem zsE{w:World}{v:Value}{l:zae}(hv:zcG w v l)(i:Int){po pn:Nat}(hppo:zes w po 110)(hppn:zes w pn 111):
  Calls Tryz.prog 118 #[v,.int .i64 i,.pointer (some ⟨po,0,none⟩),.pointer (some ⟨pn,0,none⟩)] w fun e w'=>e=.returned (.bool (zgT l && (zdb l && (decide (0<=l.pad) && (decide (l.pad<l.kh) && (decide (l.pad<l.kw) && (ziD l (l.out*l.kh*l.kw) && zaB l ⟨l.kind,0,l.out,l.kh,l.kw,l.stride,l.pad,l.weights,l.bias⟩)))))))/\Below w.heap.size w w':=by
 obtain⟨a1,a2,c1,c2,rfl,r1,r2⟩:=hv.ex;have HV:=hid hv;have q1:=r1.len;have q2:=r2.len;obtain⟨R1,R2⟩:=hd2 r1 r2;generalize hRr:(zgT l && (zdb l && (decide (0<=l.pad) && (decide (l.pad<l.kh) && (decide (l.pad<l.kw) && (ziD l (l.out*l.kh*l.kw) && zaB l ⟨l.kind,0,l.out,l.kh,l.kw,l.stride,l.pad,l.weights,l.bias⟩))))))=RR;obtain⟨HRd,HPpo,HPpn⟩:=hd3 hRr hppo hppn;clear hRr hv r1 r2 hppo hppn
 go_enter Tryz.func118,Tryz.ntmps118
 go_upto_region 1 with fail
 have hb0:=blA w (zbu l a1 c1 a2 c2 44);have hx:=b9l w l a1 c1 a2 c2 44;generalize w.alloc (zbu l a1 c1 a2 c2 44)=W at *;obtain⟨HB,HX,HW0⟩:=hd3 hb0 hx (Zg W.heap.size W);clear hx hb0;obtain⟨x0,x1,x2,x3,x4,x5,x6,x7,x8,xlt⟩:=HX.out;obtain⟨ppo,lpo⟩:=HPpo.out.below HB.out;obtain⟨ppn,lpn⟩:=HPpn.out.below HB.out;have HC:=hid (zsQ ((HV.out.below HB.out).below HW0.out))
 cases e1:zgT l with
 | false=>
  have HR:Hid (false=RR):=X7;rw[e1]at HC;clear e1
  go_wp2_with fail
  refine HC.out.mono ?_
  rintro e w1 ⟨rfl,hb1⟩;have HW1:=htr HW0 hb1;clear hb1 x0 x1 x2 x3 x4 x5 x6 x7 x8 ppo lpo ppn lpn;obtain⟨x0,x1,x2,x3,x4,x5,x6,x7,x8,xlt1⟩:=HX.out.below HW1.out;obtain⟨ppo,lpo⟩:=(HPpo.out.below HB.out).below HW1.out;obtain⟨ppn,lpn⟩:=(HPpn.out.below HB.out).below HW1.out;go_wp2;go_ret;exact TM
 | true=>
  rw[e1]at HC;have HE1:=hid e1;obtain⟨o1,o2⟩:1<=l.out/\l.out<=16384:=by unfold zgT at e1;simpa using e1
  clear e1
  go_wp2_with fail
  refine HC.out.mono ?_
  rintro e w1 ⟨rfl,hb1⟩;have HW1:=htr HW0 hb1;clear hb1 x0 x1 x2 x3 x4 x5 x6 x7 x8 ppo lpo ppn lpn;obtain⟨x0,x1,x2,x3,x4,x5,x6,x7,x8,xlt1⟩:=HX.out.below HW1.out;obtain⟨ppo,lpo⟩:=(HPpo.out.below HB.out).below HW1.out;obtain⟨ppn,lpn⟩:=(HPpn.out.below HB.out).below HW1.out;have HC2:=hid (zmC ((HV.out.below HB.out).below HW1.out))
  cases e2:zdb l with
  | false=>
   have HR:Hid (false=RR):=XO;rw[e2]at HC2;clear e2
   go_wp2_with fail
   refine HC2.out.mono ?_
   rintro e w2 ⟨rfl,hb2⟩;have HW2:=htr HW1 hb2;clear hb2 x0 x1 x2 x3 x4 x5 x6 x7 x8 ppo lpo ppn lpn;obtain⟨x0,x1,x2,x3,x4,x5,x6,x7,x8,xlt2⟩:=HX.out.below HW2.out;obtain⟨ppo,lpo⟩:=(HPpo.out.below HB.out).below HW2.out;obtain⟨ppn,lpn⟩:=(HPpn.out.below HB.out).below HW2.out;go_wp2;go_ret;exact T4
  | true=>
   rw[e2]at HC2;have HE2:=hid e2;obtain⟨⟨k1,k2⟩,⟨k3,k4⟩,_⟩:(1<=l.kh/\l.kh<=64)/\(1<=l.kw/\l.kw<=64)/\(1<=l.stride/\l.stride<=64):=by unfold zdb zcS at e2;simpa using e2
   clear e2;obtain⟨⟨m1,m2⟩,m3,m4⟩:=znG o1 o2 k1 k2 k3 k4
   go_wp2_with fail
   refine HC2.out.mono ?_
   rintro e w2 ⟨rfl,hb2⟩;have HW2:=htr HW1 hb2;clear hb2 x0 x1 x2 x3 x4 x5 x6 x7 x8 ppo lpo ppn lpn;obtain⟨x0,x1,x2,x3,x4,x5,x6,x7,x8,xlt2⟩:=HX.out.below HW2.out;obtain⟨ppo,lpo⟩:=(HPpo.out.below HB.out).below HW2.out;obtain⟨ppn,lpn⟩:=(HPpn.out.below HB.out).below HW2.out
   by_cases g1:0<=l.pad
   ·by_cases g2:l.pad<l.kh
    ·by_cases g3:l.pad<l.kw
     ·have HC3:=hid (zkl ((HV.out.below HB.out).below HW2.out) (l.out*l.kh*l.kw) m3 Ya)
      cases e3:ziD l (l.out*l.kh*l.kw)with
      | false=>
       have HR:Hid (false=RR):=YJ;rw[e3]at HC3;clear e3
       go_wp2_with fail
       refine HC3.out.mono ?_
       rintro e w3 ⟨rfl,hb3⟩;have HW3:=htr HW2 hb3;clear hb3 x0 x1 x2 x3 x4 x5 x6 x7 x8 ppo lpo ppn lpn;obtain⟨x0,x1,x2,x3,x4,x5,x6,x7,x8,xlt3⟩:=HX.out.below HW3.out;obtain⟨ppo,lpo⟩:=(HPpo.out.below HB.out).below HW3.out;obtain⟨ppn,lpn⟩:=(HPpn.out.below HB.out).below HW3.out;go_wp2;go_ret;exact⟨zj HR.out,HB.out.trans (HW3.out.mono HB.out.size)⟩
      | true=>
       have HR:Hid (zaB l ⟨l.kind,0,l.out,l.kh,l.kw,l.stride,l.pad,l.weights,l.bias⟩=RR):=YJ;rw[e3]at HC3;clear e3
       go_wp2_with fail
       refine HC3.out.mono ?_
       rintro e w3 ⟨rfl,hb3⟩;have HW3:=htr HW2 hb3;clear hb3 x0 x1 x2 x3 x4 x5 x6 x7 x8 ppo lpo ppn lpn;obtain⟨x0,x1,x2,x3,x4,x5,x6,x7,x8,xlt3⟩:=HX.out.below HW3.out;obtain⟨ppo,lpo⟩:=(HPpo.out.below HB.out).below HW3.out;obtain⟨ppn,lpn⟩:=(HPpn.out.below HB.out).below HW3.out;have HCo:=hid (znb (m:=⟨0,0,l.out,l.kh,l.kw,l.stride,l.pad,l.weights,l.bias⟩) ((HV.out.below HB.out).below HW3.out) (u:=.agg #[.int .i64 0,.int .i64 0,.int .i64 l.out,.int .i64 l.kh,.int .i64 l.kw,.int .i64 l.stride,.int .i64 l.pad,.slice a1 l.weights.length c1,.slice a2 l.bias.length c2]) ⟨a1,a2,c1,c2,rfl,(R1.out.below HB.out).below HW3.out,(R2.out.below HB.out).below HW3.out⟩);generalize zaB l ⟨l.kind,0,l.out,l.kh,l.kw,l.stride,l.pad,l.weights,l.bias⟩=R at *
       go_wp2_with fail
       refine HCo.out.mono ?_
       rintro e w4 ⟨rfl,hb4⟩;have HW4:=htr HW3 hb4;clear hb4 x0 x1 x2 x3 x4 x5 x6 x7 x8 ppo lpo ppn lpn;obtain⟨x0,x1,x2,x3,x4,x5,x6,x7,x8,xlt4⟩:=HX.out.below HW4.out;obtain⟨ppo,lpo⟩:=(HPpo.out.below HB.out).below HW4.out;obtain⟨ppn,lpn⟩:=(HPpn.out.below HB.out).below HW4.out;go_wp2;go_ret;exact⟨zj HR.out,HB.out.trans (HW4.out.mono HB.out.size)⟩
     ·have HR:Hid (false=RR):=by unfold Hid;rw[<- HRd.out,HE1.out,HE2.out,Zk g1,Zk g2,Zo g3];rfl
      go_wp2;go_ret;exact T4
    ·have HR:Hid (false=RR):=by unfold Hid;rw[<- HRd.out,HE1.out,HE2.out,Zk g1,Zo g2];rfl
     go_wp2;go_ret;exact T4
   ·have HR:Hid (false=RR):=by unfold Hid;rw[<- HRd.out,HE1.out,HE2.out,Zo g1];rfl
    go_wp2;go_ret;exact T4
theorem zsO(l:zae)(i:Int)(h:l.kind=1):(zgT l && (ziD l l.out && zaB l ⟨l.kind,0,l.out,0,0,0,0,l.weights,l.bias⟩))=zcQ l i:=by
 unfold zcQ zaB;rw[Zq h,ZY];exact I7
theorem zss(l:zae)(i:Int)(h:l.kind=2):(zgT l && (zdb l && (decide (0<=l.pad) && (decide (l.pad<l.kh) && (decide (l.pad<l.kw) && (ziD l (l.out*l.kh*l.kw) && zaB l ⟨l.kind,0,l.out,l.kh,l.kw,l.stride,l.pad,l.weights,l.bias⟩))))))=zcQ l i:=by
 unfold zcQ zaB;rw[Zh Ya,Zq h,ZY];exact I7
theorem zsw(l:zae)(i:Int)(h:l.kind=3∨l.kind=4):(zdb l && zaB l ⟨l.kind,0,0,l.kh,l.kw,l.stride,0,[],[]⟩)=zcQ l i:=by
 unfold zcQ zaB zh3;rw[Zh Ya,Zh Ya,Zq h,ZY];simp only[Zw,ZaC,Zy,ZL,ZK]
 constructor
 ·rintro⟨k0,k1,k2,k3,k4,k5⟩;exact⟨k0,⟨k1,k2,k3⟩,k4,k5⟩
 ·rintro⟨k0,⟨k1,k2,k3⟩,k4,k5⟩;exact⟨k0,k1,k2,k3,k4,k5⟩
theorem zsq(l:zae)(i:Int)(h:l.kind=5∨l.kind=6):(zaB l ⟨l.kind,0,0,0,0,0,0,[],[]⟩)=zcQ l i:=by
 unfold zcQ zaB zh3;rw[Zh Ya,Zh Ya,Zh Ya,Zq h,ZY];simp only[Zw,ZaC,Zy,ZL,ZK]
 constructor
 ·rintro⟨k1,k2,k3,k4,k5,k6,k7,k8⟩;exact⟨⟨k1,k2,k3,k4,k5,k6⟩,k7,k8⟩
 ·rintro⟨⟨k1,k2,k3,k4,k5,k6⟩,k7,k8⟩;exact⟨k1,k2,k3,k4,k5,k6,k7,k8⟩
theorem zr9(l:zae)(i:Int)(h:l.kind=7):(decide (-1<=l.frm) && (decide (l.frm<i) && zaB l ⟨l.kind,l.frm,0,0,0,0,0,[],[]⟩))=zcQ l i:=by
 unfold zcQ zaB zh3;rw[Zh Ya,Zh Ya,Zh Ya,Zh Ya,Zq h,ZY];simp only[Zw,ZaC,Zy,ZL,ZK]
 constructor
 ·rintro⟨k1,k2,k3,k4,k5,k6,k7,k8,k9⟩;exact⟨k1,k2,⟨k3,k4,k5,k6,k7⟩,k8,k9⟩
 ·rintro⟨k1,k2,⟨k3,k4,k5,k6,k7⟩,k8,k9⟩;exact⟨k1,k2,k3,k4,k5,k6,k7,k8,k9⟩
end Go.Proofs.YtfgmmghmmfmdgaaGreat
namespace Go.Proofs.YtfgmmghmmfmdgaaGreat
open Go.Lib (hid)
variable {d:Nat} {z:Int}
def zbc(x:zaI):Rat:=mkRat (sgn x.neg (zo x.num)) (zw x.den)
def zh(q:Rat):zaI:=⟨decide (q.num<0),ze q.num.natAbs,if q.den=1 then[]else ze q.den⟩
theorem zbR(neg:Bool)(n:Nat):(sgn neg n).natAbs=n:=by cases neg<;>simp[sgn]
theorem zbU(neg:Bool)(n:Nat)(hd:0<d):zbD neg n d=zh (mkRat (sgn neg n) d):=by
 have hg:0<Nat.gcd n d:=Nat.gcd_pos_of_pos_right _ hd;obtain⟨k,hk⟩:=Nat.gcd_dvd_left n d;rw[Rat.mkRat_def,dif_neg Ya,Rat.normalize_eq];unfold zbD zh;simp only[zbR];have e:sgn neg n/((Nat.gcd n d:Nat):Int)=sgn neg (n/Nat.gcd n d):=by
  generalize Nat.gcd n d=g at *;subst hk;rw[Nat.mul_div_cancel_left _ hg];cases neg
  ·simp only[sgn];simp;rw[Int.mul_ediv_cancel_left _ Ya]
  ·simp only[sgn];simp;rw[<- Int.mul_neg,Int.mul_ediv_cancel_left _ Ya]
 rw[e,zbR]
 congr 1
 have h0:n=0 ↔ n/Nat.gcd n d=0:=by
  constructor
  ·rintro rfl;simp
  ·intro h;generalize Nat.gcd n d=g at *;subst hk;rw[Nat.mul_div_cancel_left _ hg]at h;rw[h,Nat.mul_zero]
 generalize n/Nat.gcd n d=q at *
 by_cases hn:n=0
 ·rw[h0.1 hn];cases neg<;>simp[sgn,hn]
 ·have hq:q≠0:=fun h=>hn (h0.2 h)
  cases neg
  ·simp[sgn]
  ·simp[sgn,hn];omega
theorem zcz(x:zaI):za0 x=zh (zbc x):=zbU _ _ (z6 _)
theorem zjN(q:Rat):zw (zh q).den=q.den:=by
 unfold zh zw
 dsimp only
 have:=q.den_nz
 by_cases h:q.den=1
 ·rw[Zq h,zcj,Zq rfl,h]
 ·rw[Zh h,zi,Zh this]
theorem zoQ(q:Rat):sgn (zh q).neg (zo (zh q).num)=q.num:=by
 unfold zh sgn
 dsimp only
 rw[zi]
 by_cases h:q.num<0
 ·rw[Zk h];simp;omega
 ·rw[Zo h];simp;omega
theorem zax(q:Rat):zbc (zh q)=q:=by
 unfold zbc;rw[zjN,zoQ,Rat.mkRat_self]
theorem znt(a b:Bool)(n m:Nat):sgn (a != b) (n*m)=sgn a n*sgn b m:=by
 cases a<;>cases b<;>simp[sgn,Int.neg_mul,Int.mul_neg]
theorem ztb(a b:Bool)(n m d e:Nat):mkRat (sgn (a != b) (n*m)) (d*e)=mkRat (sgn a n) d*mkRat (sgn b m) e:=by
 rw[znt,Rat.mkRat_mul_mkRat]
theorem zsW(a b:Bool)(n m:Nat){e:Nat}(hd:0<d)(he:0<e):mkRat (sgn a (n*e)+sgn b (m*d)) (d*e)=mkRat (sgn a n) d+mkRat (sgn b m) e:=by
 rw[Rat.mkRat_add_mkRat _ _ Ya Ya]
 congr 1
 cases a<;>cases b<;>simp[sgn,Int.neg_mul]
theorem zlN(b:Bool)(m e:Nat):(mkRat (sgn b m) e)⁻¹=mkRat (sgn b e) m:=by
 rw[Rat.mkRat_eq_div,Rat.mkRat_eq_div,Rat.div_def,Rat.div_def,Rat.inv_mul_rev,Rat.inv_inv];cases b
 ·rfl
 ·have h:(-((m:Int):Rat))⁻¹= -((m:Int):Rat)⁻¹:=by grind
  simp only[sgn,if_true,Rat.intCast_neg,h,Rat.mul_neg,Rat.neg_mul];rfl
theorem zsZ(a b:Bool)(n m d e:Nat):mkRat (sgn (a != b) (n*e)) (d*m)=mkRat (sgn a n) d/mkRat (sgn b m) e:=by
 rw[Rat.div_def,zlN b m e,znt,Rat.mkRat_mul_mkRat]
def zic(q:Rat):Int:=if q<0 then -1 else if 0<q then 1 else 0
theorem zhW(hd:0<d):0<mkRat z d ↔ 0<z:=by
 rw[Rat.mkRat_eq_div];have h:(0:Rat)<(d:Rat):=by exact_mod_cast hd
 rw[Rat.lt_div_iff h,Rat.zero_mul];exact Rat.intCast_lt_intCast (a:=0)
theorem zh7(hd:0<d):mkRat z d<0 ↔ z<0:=by
 rw[Rat.mkRat_eq_div];have h:(0:Rat)<(d:Rat):=by exact_mod_cast hd
 rw[Rat.div_lt_iff h,Rat.zero_mul];exact Rat.intCast_lt_intCast (b:=0)
theorem zjk(x:zaI):zcD x.neg (zo x.num)=zic (zbc x):=by
 unfold zic zbc;simp only[zh7 (z6 _),zhW (z6 _)];unfold zcD sgn;cases x.neg<;>by_cases h:zo x.num=0<;>simp[h]<;>omega
structure zaf (x:zaI) (k:Nat):Prop where
 num:x.num.length<=k
 den:x.den.length<=k
theorem zaf.mono{x:zaI}{k m:Nat}(h:zaf x k)(hm:k<=m):zaf x m:=⟨Zl h.num hm,Zl h.den hm⟩
end Go.Proofs.YtfgmmghmmfmdgaaGreat
namespace Go.Proofs.YtfgmmghmmfmdgaaGreat
open Go.RowKit
open Go.Lib (hid)
variable {B:Nat} {W0:World} {input:List Int} {S:List (List Int)} {l:zae}
theorem Tryz.infoRat:(Tryz.prog.info? 51).map (fun i=>(i.zero,i.size,i.bytes))=some (some (.agg #[.bool false,.slice none 0 0,.slice none 0 0]),3,56):=Yc
structure zcm (B:Nat) (W0 w:World):Prop where
 base:B<=w.heap.size
 be:Below B W0 w
theorem zcm.start(h:B<=W0.heap.size):zcm B W0 W0.drew:=⟨h,(Zg _ _).drew⟩
theorem zcm.gp{X X':World}(h:zcm B W0 X)(k:Below X.heap.size X X'):zcm B W0 X':=⟨Zl h.base k.size,h.be.trans (k.mono h.base)⟩
structure zrA (w:World) (v:Value) (x:zaI):Prop where
 ex:∃(g:Nat) (an ad:Option Addr) (cn cd:Nat),v=.slice (some ⟨g,0,none⟩) 1 1/\g<w.heap.size/\w.cell? ⟨g,0,none⟩=some (.bool x.neg)/\w.cell? ⟨g,1,none⟩=some (.slice an x.num.length cn)/\w.cell? ⟨g,2,none⟩=some (.slice ad x.den.length cd)/\
  x.num.length<=cn/\x.den.length<=cd/\zt w an x.num/\zt w ad x.den
theorem zrA.alloc{w:World}{x:zaI}{an ad:Option Addr}{cn cd:Nat}(h3:x.num.length<=cn)(h4:x.den.length<=cd)(h5:zt w an x.num)(h6:zt w ad x.den)(T:Nat):
  zrA (w.alloc (.cells #[.bool x.neg,.slice an x.num.length cn,.slice ad x.den.length cd] T)) (.slice (some ⟨w.heap.size,0,none⟩) 1 1) x:=by
 have hb:Below w.heap.size w (w.alloc (.cells #[.bool x.neg,.slice an x.num.length cn,.slice ad x.den.length cd] T)):=(Zg _ w).alloc (Za _) _;exact⟨w.heap.size,an,ad,cn,cd,rfl,Yd,by rw[World.cell?_alloc_at _ _ _ _ rfl];rfl,by rw[World.cell?_alloc_at _ _ _ _ rfl];rfl,by rw[World.cell?_alloc_at _ _ _ _ rfl];rfl,h3,h4,h5.below hb,h6.below hb⟩
theorem zbT(input:List Int)(S:List (List Int))(l:zae):
  ((zY input S l).2=1/\(zY input S l).1=[]/\((zm input && (decide (S.length+1<=64) && zag l S.length)) && S.all zm)=false) ∨
  ((((zm input && (decide (S.length + 1 <= 64) && zag l S.length)) && S.all zm) = true) /\ ((zY input S l).2 = 7 /\ (zY input S l).1 = [] /\ ((za5 input S l).2 && zm (za5 input S l).1) = false ∨
    (zY input S l).2=0/\(zY input S l).1=(za5 input S l).1/\(za5 input S l).2=true/\zm (za5 input S l).1=true)):=by
 unfold zY
 cases h:((zm input && (decide (S.length+1<=64) && zag l S.length)) && S.all zm)with
 | false=>exact .inl ⟨rfl,rfl,rfl⟩
 | true=>
  refine .inr ⟨rfl,?_⟩
  cases h2:((za5 input S l).2 && zm (za5 input S l).1)with
  | false=>exact .inl ⟨rfl,rfl,rfl⟩
  | true=>
   rw[Zw]at h2;exact .inr ⟨rfl,rfl,h2.1,h2.2⟩
theorem zcy(h:(zY input S l).2=0):zm (zY input S l).1=true:=by
 rcases zbT input S l with⟨h1,_,_⟩|⟨_,⟨h1,_,_⟩|⟨_,h2,_,h3⟩⟩
 ·omega
 ·omega
 ·rw[h2];exact h3
theorem zgn(h1:zm input=true)(h2:S.length+1<=64)(h3:zag l S.length=true)(h4:S.all zm=true)(h:(zY input S l).2≠0):(zY input S l).2=7:=by
 rcases zbT input S l with⟨_,_,k⟩|⟨_,⟨k,_,_⟩|⟨k,_,_,_⟩⟩
 ·rw[h1,h3,h4,Zk h2]at k;cases k
 ·exact k
 ·exact absurd k h
theorem zbx(input:List Int)(S:List (List Int))(l:zae)(r:List zae):
  zT input S (l::r)=if(zY input S l).2=0 then zT input (S++[(zY input S l).1]) r else([],S.length,(zY input S l).2):=by
 rw[zT]
def zi0(input:List Int)(S T:List (List Int))(L:List zae):Prop:=
 T.length=L.length/\∀(j:Nat) (s:List Int) (l:zae),T[j]? =some s->L[j]? =some l->zY input (S++T.take j) l=(s,0)
theorem zfN{input:List Int}:∀(L:List zae) (S:List (List Int)),(∃T,zi0 input S T L/\zT input S L=(S++T,0,0))∨((zT input S L).2.2≠0/\(zT input S L).1=[]):=by
 intro L
 induction L with
 | nil=>intro S;exact .inl ⟨[],⟨rfl,Yd⟩,by simp[zT]⟩
 | cons l r ih=>
  intro S;rw[zbx]
  by_cases h:(zY input S l).2=0
  ·rw[Zq h]
   rcases ih (S++[(zY input S l).1])with⟨T,⟨h1,h2⟩,h3⟩|h1
   ·refine .inl ⟨(zY input S l).1::T,⟨Uc,fun j s l' hs hl=>?_⟩,by rw[h3,Z9];rfl⟩
    cases j with
    | zero=>
     simp at hs hl;subst hs hl;rw[Zv,ZaX,<- h]
    | succ j=>
     have:=h2 j s l' (by simpa using hs) (by simpa using hl);rw[Z9]at this;rw[Zm];exact this
   ·exact .inr h1
  ·rw[Zh h];exact .inr ⟨h,rfl⟩
theorem zi0.valid{T:List (List Int)}{L:List zae}(h:zi0 input [] T L):T.all zm=true:=by
 rw[Zap];intro s hs;obtain⟨j,hj⟩:=ZaY hs;have hlt:=(Zu.1 hj).1;obtain⟨l,hl⟩:∃l,L[j]? =some l:=⟨L[j]'(by rw[<- h.1];exact hlt),Zn _⟩
 have:=h.2 j s l hj hl;have h2:=zcy (input:=input) (S:=[]++T.take j) (l:=l) (by rw[this]);rw[this]at h2;exact h2
theorem zfG{input:List Int}(hi:zm input=true):∀(L:List zae) (S:List (List Int)),S.all zm=true->S.length+L.length<=64->zak L S.length=true->(zT input S L).2.2=0∨(zT input S L).2.2=7:=by
 intro L
 induction L with
 | nil=>intro S _ _ _;exact .inl rfl
 | cons l r ih=>
  intro S hS hl hok;unfold zak at hok;rw[Zw]at hok;rw[zbx]
  by_cases h:(zY input S l).2=0
  ·rw[Zq h]
   refine ih _ ?_ ?_ ?_
   ·rw[ZbA,hS,List.all_cons,List.all_nil,zcy h];rfl
   ·simp at hl⊢;omega
   ·rw[ZB];simpa using hok.2
  ·rw[Zh h];exact .inr (zgn hi (by simp at hl;omega) hok.1 hS h)
theorem zdd(m:zgt):(zbl m=false/\zab m=([],0,1))∨(zbl m=true/\((∃T,zi0 m.input [] T m.layers/\zab m=(T,0,0))∨((zab m).2.2=7/\(zab m).1=[]))):=by
 unfold zab
 cases h:zbl m with
 | false=>exact .inl ⟨rfl,rfl⟩
 | true=>
  refine .inr ⟨rfl,?_⟩
  rw[Zq rfl];have hv:=h;unfold zbl at hv;simp only[Zw,Zy]at hv
  rcases zfN (input:=m.input) m.layers []with⟨T,h1,h2⟩|⟨h1,h2⟩
  ·exact .inl ⟨T,h1,by simpa using h2⟩
  ·exact .inr ⟨(zfG hv.1 m.layers [] rfl (by simpa using hv.2.1) (by simpa using hv.2.2)).resolve_left h1,h2⟩
theorem zao{s:List Int}(h:zm s=true):1<=zJ s/\zJ s<=16384:=by
 have key:∀(l:List Int) (p:Int),1<=p->p<=16384->zX l p=true->1<=za3 l p/\za3 l p<=16384:=by
  intro l
  induction l with
  | nil=>intro p h1 h2 _;exact⟨h1,h2⟩
  | cons d r ih=>
   intro p h1 h2 h;simp only[zX]at h
   split at h
   ·cases h
   ·rename_i hc
    have:=zeT h1 h2 (d:=d) Ya Ya;exact ih _ this.1 Ya h
 unfold zJ;rw[Zq h];exact key s 1 Ya Ya (by have:=zdj h;simpa using this)
theorem zlX{n:Int}(h1:1<=n)(h2:n<=16384):zm [n]=true/\zJ [n]=n:=by
 have h:zm [n]=true:=by
  unfold zm zX;rw[Zh Ya];simp[zX]
 exact⟨h,by unfold zJ;rw[Zq h];simp[za3]⟩
theorem zj3{input:List Int}{S:List (List Int)}{l:zae}(h:(zY input S l).2=0)(hk:5<=l.kind):zJ (zY input S l).1=zJ (zk input S):=by
 rcases zbT input S l with⟨h1,_,_⟩|⟨hc,⟨h1,_,_⟩|⟨_,h2,_,h3⟩⟩
 ·omega
 ·omega
 ·rw[h2];rw[h2]at *;have hv:zm (zk input S)=true:=by
   simp only[Zw]at hc;unfold zk
   cases hg:S.getLast? with
   | none=>exact hc.1.1
   | some s=>
    have:=Za7 hg;exact Zap.1 hc.2 s this
  unfold za5;rw[Zh Ya,Zh Ya,Zh Ya]
  by_cases k6:l.kind=6
  ·rw[Zq k6];have:=zao hv;exact(zlX this.1 this.2).2
  ·rw[Zh k6]
   split<;>rfl
