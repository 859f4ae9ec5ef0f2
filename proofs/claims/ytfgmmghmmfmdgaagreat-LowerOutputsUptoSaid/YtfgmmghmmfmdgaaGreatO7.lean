/-
  Contracts: RatC, RatD, IntA, IntB, IntC, RatE, RatF, KerA, KerB, KerC, KerD, KerE, KerF, KerG, ModA, ModC, ModD, ModE, RatQ, RatR, LitB, SlotsD, ModB.
-/
import Derived.Test.YtfgmmghmmfmdgaaGreatO6
import Derived.Deep.RegionHeld3
import Derived.Test.YtfgmmghmmfmdgaaGreatO0
set_option linter.all false
set_option maxRecDepth 100000
set_option maxHeartbeats 3200000
namespace Go.Proofs.YtfgmmghmmfmdgaaGreat
open Go.RowKit
open Go.Lib (hid)
variable {P:Prop} {w' W w1:World} {g y k h o:Nat} {p q r v s u:Value} {x:zaf} {m:List Nat} {L M:List zaf}
theorem U7(h:P:=by exact⟨zi HR.out.symm,HB2.out⟩):P:=h
theorem Tp(h:P:=by exact⟨zi HR.out.symm,HB.out⟩):P:=h
theorem Tu(h:P:=by go_wp2;have hbf:=(HB1.out.setCell (p:=⟨w.heap.size,0,none⟩) (Za _) (.bool false)).setCell (p:=⟨w.heap.size,1,none⟩) (Za _) (.slice a1 0 c1);exact Zp (v:=.agg #[.bool false,.slice a1 0 c1]) YR rfl ⟨_,rfl,⟨a1,c1,[],rfl,Zs _,zw.nil _ _,rfl,Zs _⟩,hbf⟩):P:=h
theorem TE(h:P:=by exact⟨zi HR.out,HB.out.trans (HW2.out.mono HB.out.size)⟩):P:=h
theorem TY(h:P:=by exact⟨zi HR.out,HB.out.trans (HW1.out.mono HB.out.size)⟩):P:=h
theorem Ed(h:P:=by exact⟨zi HR.out,HB.out⟩):P:=h
theorem EZ(h:P:=by have:=zX.alloc (w.alloc (zbb x an cn ad cd 51)) #[.bool false,.slice none 0 0,.slice none 0 0] 51 Yc;simpa using this):P:=h
theorem Ib(h:P:=by have:=za4.alloc (w.alloc (zbb x an cn ad cd 51)) (.bool false) (.slice none 0 0) (.slice none 0 0) 51;simpa using this):P:=h
theorem IB(h:P:=by exact⟨zi HR.out.symm,HB.out.trans ((HBn.out _ (n1+n2)).mono HB.out.size)⟩):P:=h
theorem IK(h:P:=by simp only[Zu,ZaS,ZC,Z6,Z0]):P:=h
theorem IN(h:P:=by rename_i x hx;rw[hx]at h;exact h):P:=h
theorem YR(h:P:=by simp[results,Tryz.results177,go_sem,r0,r1]):P:=h
structure za4 (w:World) (g:Nat) (p q r:Value):Prop where
 c0:w.cell? ⟨g,0,none⟩=some p
 c1:w.cell? ⟨g,1,none⟩=some q
 c2:w.cell? ⟨g,2,none⟩=some r
 free:∀o,w.frozen? ⟨g,o,none⟩=false
 lt:g<w.heap.size
theorem za4.below{w:World}(h:za4 w g p q r)(hb:Below w.heap.size w w'):za4 w' g p q r:=
 ⟨(hb.cell h.lt).trans h.c0,(hb.cell h.lt).trans h.c1,(hb.cell h.lt).trans h.c2,fun o=>(hb.frozen h.lt).trans (h.free o),Zb h.lt hb.size⟩
theorem za4.alloc(w:World)(p q r:Value)(T:Nat):za4 (w.alloc (.cells #[p,q,r] T)) w.heap.size p q r:=
 ⟨by rw[World.cell?_alloc_at _ _ _ _ rfl];rfl,by rw[World.cell?_alloc_at _ _ _ _ rfl];rfl,by rw[World.cell?_alloc_at _ _ _ _ rfl];rfl,fun o=>Za2 _ _ _ _,Yc⟩
theorem zky(h0:W.cell? ⟨g,0,none⟩=some p)(h1:W.cell? ⟨g,1,none⟩=some q)(h2:W.cell? ⟨g,2,none⟩=some r)(hlt:g<W.heap.size)(hb:Below W.heap.size W w1):
  w1.cell? ⟨g,0,none⟩=some p/\w1.cell? ⟨g,1,none⟩=some q/\w1.cell? ⟨g,2,none⟩=some r:=
 ⟨(hb.cell hlt).trans h0,(hb.cell hlt).trans h1,(hb.cell hlt).trans h2⟩
theorem zqR{w:World}{v:Value}{x:zaf}(h:RatV w v x)(hr:x.num.length<=1099511627776)(hr2:x.den.length<1099511627776):Calls Tryz.prog 121 #[v] w (zcj w (zaF x)):=by
 obtain⟨an,ad,cn,cd,hv,h2,h3,h4,h5⟩:=h.ex;have hl1:=h4.len;have hl2:=h5.len;obtain⟨HV,H4,HVe⟩:=hd3 h h4 hv;rw[hv];clear h h4 h5 hv
 go_enter Tryz.func121,Tryz.ntmps121
 go_wp2_with fail
 have hB0:Below w.heap.size w ((w.alloc (zbb x an cn ad cd 51)).alloc (zc9 51)):=
  ((Ze _ _).alloc (Za _) _).alloc Yc _
 have hX:za4 ((w.alloc (zbb x an cn ad cd 51)).alloc (zc9 51)) w.heap.size (.bool x.neg) (.slice an x.num.length cn) (.slice ad x.den.length cd):=
  (za4.alloc w _ _ _ _).below ((Ze _ _).alloc (Za _) _)
 have hR:za4 ((w.alloc (zbb x an cn ad cd 51)).alloc (zc9 51)) (w.heap.size+1) (.bool false) (.slice none 0 0) (.slice none 0 0):=Ib;have hN:zX ((w.alloc (zbb x an cn ad cd 51)).alloc (zc9 51)) (w.heap.size+1):=EZ;generalize(w.alloc (zbb x an cn ad cd 51)).alloc (zc9 51)=W at *;obtain⟨HV2,H42⟩:=hd2 (HV.out.below hB0) (H4.out.below hB0);rw[HVe.out]at HV2;obtain⟨x0,x1,x2,xf,xlt⟩:=hX;obtain⟨HR,HNo,HB⟩:=hd3 hR hN hB0;have xbl:Below W.heap.size W W.drew:=(Ze _ _).drew;clear hR hN hB0 xf HV HVe H4
 go_region_held3 (fun w'=>w'.cell? ⟨w.heap.size,0,none⟩=some (.bool x.neg)/\w'.cell? ⟨w.heap.size,1,none⟩=some (.slice an x.num.length cn)/\w'.cell? ⟨w.heap.size,2,none⟩=some (.slice ad x.den.length cd))
  (first|exact zky x0 x1 x2 xlt ‹Below W.heap.size W _› | go_keep)
  (first
   | (go_at_call 150; have hS := ‹Below W.heap.size W _›; refine (zgB (HV2.out.below hS) (by show x.den.length <= _; omega)).mono ?_; rintro e w1 ⟨a1, c1, l1, rfl, g1, g2, g3, g4, g5⟩
      have hS1:=hS.trans (g5.mono hS.size))
   | (go_at_call 128; have hS := ‹Below W.heap.size W _›; refine (zod x.neg cn c1 h2 g1 (H42.out.below hS) g2 rfl g3 hr Ya (zU _)).mono ?_
      rintro e w2 ⟨v2,rfl,⟨bn,bd,m1,m2,rfl,k3,k4,k5,k6⟩,k2⟩;have hS2:=hS.trans (k2.mono hS.size);obtain⟨r0,r1,r2,rf,rlt⟩:=HR.out.below hS2;obtain⟨hN2,K5,K6⟩:=hd3 (HNo.out.below hS2 HR.out.lt) k5 k6;have hB2:=htr HB hS2))
 go_wp2;have hbf:=(((hB2.out.setCell (p:=⟨w.heap.size+1,0,none⟩) (Zaj _) (.bool (zaF x).neg)).setCell (p:=⟨w.heap.size+1,1,none⟩) (Zaj _) (.slice bn (zaF x).num.length m1)).setCell (p:=⟨w.heap.size+1,2,none⟩) (Zaj _) (.slice bd (zaF x).den.length m2))
 refine Zp (v:=.agg #[.bool (zaF x).neg,.slice bn (zaF x).num.length m1,.slice bd (zaF x).den.length m2]) (by simp[results,Tryz.results121,go_sem,r0,r1,r2,zaF]) rfl ⟨_,rfl,⟨bn,bd,m1,m2,rfl,k3,k4,?_,?_⟩,hbf⟩
 ·exact((K5.out.setCell hN2.out _ _).setCell (hN2.out.setCell _ _ Yc) _ _).setCell ((hN2.out.setCell _ _ Yc).setCell _ _ Yc) _ _
 ·exact((K6.out.setCell hN2.out _ _).setCell (hN2.out.setCell _ _ Yc) _ _).setCell ((hN2.out.setCell _ _ Yc).setCell _ _ Yc) _ _
theorem zkp{w:World}(h:RatV w v x)(hd:x.den=[]):Calls Tryz.prog 83 #[v] w fun e w'=>e=.returned (.bool (zP x))/\Below w.heap.size w w':=by
 obtain⟨an,ad,cn,cd,rfl,h2,h3,h4,h5⟩:=h.ex;have hR:=zlX h.lim hd;have hl:=h4.len;rw[hd]at *;have hB0:=blA w (.cells #[.bool x.neg,.slice an x.num.length cn,.slice ad ([]:List Nat).length cd] 51);obtain⟨HV,HB,HR⟩:=hd3 (zsm cn (h4.below hB0)) hB0 hR;clear h hR h4 h5 h3 h2 hB0 hd
 by_cases hc:zf4 x.num
 ·rw[Zk hc]at HV HR;clear hc
  by_cases hn:x.neg=true
  ·rw[hn]at HV HR HB⊢;clear hn
   by_cases hp:0<x.num.length
   ·rw[Zk hp]at HR
    go_enter Tryz.func83,Tryz.ntmps83
    go_wp2_with fail
    refine HV.out.mono ?_
    rintro e w' ⟨rfl,rfl⟩;go_wp2;go_ret;exact Tp
   ·rw[Zj hp]at HR;have hp0:x.num.length=0:=Ya;rw[hp0]at HV HB⊢;clear hp hp0
    go_enter Tryz.func83,Tryz.ntmps83
    go_wp2_with fail
    refine HV.out.mono ?_
    rintro e w' ⟨rfl,rfl⟩;go_wp2;go_ret;exact Tp
  ·rw[Zbz]at hn;rw[hn]at HV HR HB⊢;clear hn
   go_enter Tryz.func83,Tryz.ntmps83
   go_wp2_with fail
   refine HV.out.mono ?_
   rintro e w' ⟨rfl,rfl⟩;go_wp2;go_ret;exact Tp
 ·rw[Zj hc]at HV HR;clear hc
  go_enter Tryz.func83,Tryz.ntmps83
  go_wp2_with fail
  refine HV.out.mono ?_
  rintro e w' ⟨rfl,rfl⟩;go_wp2;go_ret;exact Tp
theorem zfi{x:Nat}:(zdR x y==0)=decide (x=y):=by
 unfold zdR;rw[ZZ,ZaS,ZC]
 split<;>(try split)<;>omega
theorem ziL{a b:Nat}:((a:Int)==(b:Int))=decide (a=b):=by
 rw[ZZ,ZaS,ZC];omega
theorem zkE{w:World}(h:RatV w v x)(hd:x.den≠[])(hr:x.num.length<=1099511627776)(hr2:x.den.length<1099511627776):Calls Tryz.prog 83 #[v] w fun e w'=>e=.returned (.bool (zP x))/\Below w.heap.size w w':=by
 have hR:=zmv h.lim;have HVw:=hid h;obtain⟨an,ad,cn,cd,hv,h2,h3,h4,h5⟩:=h.ex;have HVe:=hid hv;rw[hv];have hl:=h4.len;have hl2:=h5.len;have hdl:((x.den.length:Int)==0)=false:=by have:=ZJ.2 hd;rw[Zaf];omega
 obtain⟨HD,H4,H5,HC0⟩:=hd4 hd h4 h5 (fun wv (hh:RatV wv v x)=>zqR hh hr hr2);rw[hv]at HC0 HVw;generalize zaF x=C at hR HC0;have HR:=hid hR;clear h h4 h5 hd hv hR
 go_enter Tryz.func83,Tryz.ntmps83
 have hB0:=blA w (zbb x an cn ad cd 51)
 go_wp2_with fail
 refine(HC0.out _ (HVw.out.below hB0)).mono ?_
 rintro e1 w1 ⟨v2,rfl,⟨bn,bd,m1,m2,rfl,k3,k4,k5,k6⟩,hb1⟩;have hX1:=(za4.alloc w (.bool x.neg) (.slice an x.num.length cn) (.slice ad x.den.length cd) 51).below hb1;have hbA:=hB0.trans (hb1.mono hB0.size);have hbB:=blA w1 (zbb C bn m1 bd m2 51);obtain⟨x0,x1,x2,_,_⟩:=hX1.below hbB;obtain⟨r0,r1,r2,_,_⟩:=za4.alloc w1 (.bool C.neg) (.slice bn C.num.length m1) (.slice bd C.den.length m2) 51;have HB:=hid (hbA.trans (hbB.mono hbA.size));have hlc1:=k5.len;have hlc2:=k6.len;obtain⟨HM1,HM2,HBn⟩:=hd3 (zrH cn m1 h2 k3 ((H4.out.below hbA).below hbB) (k5.below hbB) rfl rfl) (fun n=>zrH cd m2 h3 k4 (((H5.out.below hbA).below hbB).drewN n) ((k6.below hbB).drewN n) rfl rfl) (fun(wv:World) n=>Below.drewN_refl wv n);clear k5 k6 hbA hbB hb1 hB0 hX1
 by_cases e1:x.neg=C.neg
 ·have te1:(x.neg==C.neg)=true:=KE;rw[Zk e1]at HR;clear e1
  by_cases e2:x.num.length=C.num.length
  ·have te2:((x.num.length:Int)==(C.num.length:Int))=true:=by rw[ziL];exact Zk e2
   rw[Zk e2]at HR;clear e2
   by_cases e3:x.den.length=C.den.length
   ·have te3:((x.den.length:Int)==(C.den.length:Int))=true:=by rw[ziL];exact Zk e3
    rw[Zk e3]at HR;clear e3
    by_cases e4:zo x.num=zo C.num
    ·have t4:(zdR (zo x.num) (zo C.num)==0)=true:=by rw[zfi];exact Zk e4
     rw[Zk e4]at HR;clear e4;generalize zdR (zo x.num) (zo C.num)=z1 at *
     by_cases e5:zo x.den=zo C.den
     ·have t5:(zdR (zo x.den) (zo C.den)==0)=true:=by rw[zfi];exact Zk e5
      rw[Zk e5]at HR;clear e5;generalize zdR (zo x.den) (zo C.den)=z2 at *
      go_wp2_with fail
      refine HM1.out.mono ?_
      rintro e2 w2 ⟨rfl,n1,rfl⟩
      go_wp2_with fail
      refine(HM2.out n1).mono ?_
      rintro e3 w3 ⟨rfl,n2,rfl⟩;go_wp2;go_ret;exact IB
     ·have t5:(zdR (zo x.den) (zo C.den)==0)=false:=by rw[zfi];exact Zj e5
      rw[Zj e5]at HR;clear e5;generalize zdR (zo x.den) (zo C.den)=z2 at *
      go_wp2_with fail
      refine HM1.out.mono ?_
      rintro e2 w2 ⟨rfl,n1,rfl⟩
      go_wp2_with fail
      refine(HM2.out n1).mono ?_
      rintro e3 w3 ⟨rfl,n2,rfl⟩;go_wp2;go_ret;exact IB
    ·have t4:(zdR (zo x.num) (zo C.num)==0)=false:=by rw[zfi];exact Zj e4
     rw[Zj e4]at HR;clear e4;generalize zdR (zo x.num) (zo C.num)=z1 at *
     go_wp2_with fail
     refine HM1.out.mono ?_
     rintro e2 w2 ⟨rfl,n1,rfl⟩;go_wp2;go_ret;exact⟨zi HR.out.symm,HB.out.trans ((HBn.out _ _).mono HB.out.size)⟩
   ·have te3:((x.den.length:Int)==(C.den.length:Int))=false:=by rw[ziL];exact Zj e3
    rw[Zj e3]at HR;clear e3;go_wp2;go_ret;exact Tp
  ·have te2:((x.num.length:Int)==(C.num.length:Int))=false:=by rw[ziL];exact Zj e2
   rw[Zj e2]at HR;clear e2;go_wp2;go_ret;exact Tp
 ·have te1:(x.neg==C.neg)=false:=X0;rw[Zj e1]at HR;clear e1;go_wp2;go_ret;exact Tp
theorem zsi{w:World}(h:RatV w v x)(hr:x.num.length<=1099511627776)(hr2:x.den.length<1099511627776):Calls Tryz.prog 83 #[v] w fun e w'=>e=.returned (.bool (zP x))/\Below w.heap.size w w':=by
 by_cases hd:x.den=[]
 ·exact zkp h hd
 ·exact zkE h hd hr hr2
def sgn(neg:Bool)(n:Nat):Int:=if neg then -(n:Int)else(n:Int)
def zdv(neg:Bool)(n:Nat):Int:=if n=0 then 0 else if neg then -1 else 1
structure zc8 (w:World) (v:Value) (neg:Bool) (n k:Nat):Prop where
 ex:∃(a:Option Addr) (c:Nat) (l:List Nat),v=.agg #[.bool neg,.slice a l.length c]/\l.length<=c/\zw w a l/\zo l=n/\l.length<=k
theorem zc8.below{w:World}{neg:Bool}{n:Nat}(h:zc8 w v neg n k)(hb:Below w.heap.size w w'):zc8 w' v neg n k:=by
 obtain⟨a,c,l,h1,h2,h3,h4,h5⟩:=h.ex;exact⟨a,c,l,h1,h2,h3.below hb,h4,h5⟩
def ztL(w:World)(neg:Bool)(n k:Nat)(e:Ending)(w':World):Prop:=∃v,e=.returned v/\zc8 w' v (neg && decide (n≠0)) n k/\Below w.heap.size w w'
structure za1 (w:World) (g:Nat) (p q:Value):Prop where
 c0:w.cell? ⟨g,0,none⟩=some p
 c1:w.cell? ⟨g,1,none⟩=some q
 free:∀o,w.frozen? ⟨g,o,none⟩=false
 lt:g<w.heap.size
theorem za1.below{w:World}(h:za1 w g p q)(hb:Below w.heap.size w w'):za1 w' g p q:=
 ⟨(hb.cell h.lt).trans h.c0,(hb.cell h.lt).trans h.c1,fun o=>(hb.frozen h.lt).trans (h.free o),Zb h.lt hb.size⟩
theorem za1.alloc(w:World)(p q:Value)(T:Nat):za1 (w.alloc (.cells #[p,q] T)) w.heap.size p q:=
 ⟨by rw[World.cell?_alloc_at _ _ _ _ rfl];rfl,by rw[World.cell?_alloc_at _ _ _ _ rfl];rfl,fun o=>Za2 _ _ _ _,Yc⟩
theorem zpZ{w:World}{a:Option Addr}{l:List Nat}(neg:Bool){n:Nat}(c k:Nat)(hc:l.length<=c)(h:zw w a l)(hx:zo l=n)(hk:l.length<=k)(hr:k<=17592186044416):
  Calls Tryz.prog 177 #[.bool neg,.slice a l.length c] w (ztL w neg n k):=by
 have hB0:=blA w (.cells #[.bool false,.slice none 0 0] 89);have HM:=hid (zlO c hc (h.below hB0) Ya);rw[hx]at HM;have hR:=za1.alloc w (.bool false) (.slice none 0 0) 89;have hN:=zX.alloc w #[.bool false,.slice none 0 0] 89 Yc;have hl:=h.len;have hnl:(za n).length<=l.length:=by have:=zG h.lim;rwa [hx]at this
 obtain⟨HB,HR,HN⟩:=hd3 hB0 hR hN;clear h hx hB0 hR hN
 go_enter Tryz.func177,Tryz.ntmps177
 go_wp2_with fail
 refine HM.out.mono ?_
 rintro e w1 ⟨a1,c1,rfl,h1,h2,hb⟩;obtain⟨r0,r1,rf,rlt⟩:=HR.out.below hb;have HN1:=hid (HN.out.below hb Yc);have HB1:=htr HB hb;have H2:=hid h2;clear HM HR HN HB h2 hb
 by_cases hn:n=0
 ·subst hn;rw[zy]at *
  cases neg with
  | false=>
   exact Tu
  | true=>
   exact Tu
 ·have hp:=zak.2 (Zaz hn);have hd:=Zk hn;have HDn:=hid hd;clear hn hd
  cases neg with
  | false=>
   go_wp2;have hbf:=(HB1.out.setCell (p:=⟨w.heap.size,0,none⟩) (Za _) (.bool false)).setCell (p:=⟨w.heap.size,1,none⟩) (Za _) (.slice a1 (za n).length c1);exact Zp (v:=.agg #[.bool false,.slice a1 (za n).length c1]) YR rfl ⟨_,rfl,⟨a1,c1,za n,Yc,h1,(H2.out.setCell HN1.out _ _).setCell (HN1.out.setCell _ _ Yc) _ _,zg n,Ya⟩,hbf⟩
  | true=>
   go_wp2;have hbf:=(HB1.out.setCell (p:=⟨w.heap.size,0,none⟩) (Za _) (.bool true)).setCell (p:=⟨w.heap.size,1,none⟩) (Za _) (.slice a1 (za n).length c1);exact Zp (v:=.agg #[.bool true,.slice a1 (za n).length c1]) YR rfl ⟨_,rfl,⟨a1,c1,za n,VZ,h1,(H2.out.setCell HN1.out _ _).setCell (HN1.out.setCell _ _ Yc) _ _,zg n,Ya⟩,hbf⟩
theorem zrW{w:World}{v:Value}{neg:Bool}{n k:Nat}(h:zc8 w v neg n k)(hr:k<=17592186044416):
  Calls Tryz.prog 158 #[v] w fun e w'=>e=.returned (.int .i64 (zdv neg n))/\Below w.heap.size w w':=by
 obtain⟨a,c,l,rfl,h1,h2,h3,h4⟩:=h.ex;have hB0:=blA w (.cells #[.bool neg,.slice a l.length c] 89);obtain⟨H2,HB⟩:=hd2 (h2.below hB0) hB0;have hl:=h2.len;clear h h2 hB0
 by_cases hn:n=0
 ·subst hn;have HZ:=hid (zhH c h1 H2.out h3);clear h3
  go_enter Tryz.func158,Tryz.ntmps158
  go_wp2_with fail
  refine HZ.out.mono ?_
  rintro e w' ⟨rfl,rfl⟩;go_wp2;go_ret;exact⟨rfl,HB.out⟩
 ·have HZ:=hid (zjH c h1 H2.out h3 hn Ya);have HS:Hid (zdv neg n=if neg then -1 else 1):=by unfold Hid zdv;rw[Zg hn]
  clear h3 hn
  go_enter Tryz.func158,Tryz.ntmps158
  go_wp2_with fail
  refine HZ.out.mono ?_
  rintro e w' ⟨⟨m,rfl,hm1,hm2⟩,rfl⟩;have hz:((m:Int)==0)=false:=bn0 Ya
  cases neg with
  | false=>
   go_wp2;go_ret;exact⟨zaD HS.out.symm,HB.out⟩
  | true=>
   go_wp2;go_ret;exact⟨zaD HS.out.symm,HB.out⟩
theorem zgp(hg:za1 W g p q)(hh:za1 W h r s)(hb:Below W.heap.size W w1):
  w1.cell? ⟨g,0,none⟩=some p/\w1.cell? ⟨g,1,none⟩=some q/\w1.cell? ⟨h,0,none⟩=some r/\w1.cell? ⟨h,1,none⟩=some s:=
 ⟨(hb.cell hg.lt).trans hg.c0,(hb.cell hg.lt).trans hg.c1,(hb.cell hh.lt).trans hh.c0,(hb.cell hh.lt).trans hh.c1⟩
theorem zcO{l:List Nat}{x k1 k2:Nat}(hx:zo l=x)(hy:zo m=y)(h1:l.length<=k1)(h2:m.length<=k2)(hl:Lim l)(hm:Lim m):(za (x*y)).length<=k1+k2:=by
 refine zaq (Zb (m:=4294967296^(l.length+m.length)) ?_ (Zt Ya Ya))
 rw[<- hx,<- hy,Z9];exact Nat.mul_lt_mul'' (zct hl) (zct hm)
theorem zeS{w:World}{i:Nat}(hne:g≠h):(w.setCell ⟨g,i,none⟩ u).cell? ⟨h,o,none⟩=w.cell? ⟨h,o,none⟩:=ZA _ _ _ _ (by intro e;cases e;exact hne rfl)
theorem zgN(hg:za1 W g p q)(hh:za1 W (g+1) r s)(hb:Below W.heap.size W w1)(u u':Value):
  ((w1.setCell ⟨g+1+1,0,none⟩ u).setCell ⟨g+1+1,1,none⟩ u').cell? ⟨g,0,none⟩=some p/\((w1.setCell ⟨g+1+1,0,none⟩ u).setCell ⟨g+1+1,1,none⟩ u').cell? ⟨g,1,none⟩=some q/\
  ((w1.setCell ⟨g+1+1,0,none⟩ u).setCell ⟨g+1+1,1,none⟩ u').cell? ⟨g+1,0,none⟩=some r/\((w1.setCell ⟨g+1+1,0,none⟩ u).setCell ⟨g+1+1,1,none⟩ u').cell? ⟨g+1,1,none⟩=some s:=by
 obtain⟨a,b,c,d⟩:=zgp hg hh hb
 refine⟨?_,?_,?_,?_⟩<;>rw[zeS Ya,zeS Ya]<;>assumption
structure Two (w W:World) (g:Nat) (p q r s:Value):Prop where
 a:za1 W g p q
 b:za1 W (g+1) r s
 bl:Below g w W
theorem Two.mk'(w:World)(p q r s:Value)(T:Nat):Two w ((w.alloc (.cells #[p,q] T)).alloc (.cells #[r,s] T)) w.heap.size p q r s:=by
 refine⟨(za1.alloc w p q T).below ((Ze _ _).alloc (Za _) _),?_,((Ze _ _).alloc (Za _) _).alloc Yc _⟩
 have:=za1.alloc (w.alloc (.cells #[p,q] T)) r s T
 simpa using this
theorem zt8{w:World}{v u:Value}{n1 n2:Bool}{x y k1 k2:Nat}(hv:zc8 w v n1 x k1)(hu:zc8 w u n2 y k2)(hr:k1+k2<=17592186044416):
  Calls Tryz.prog 175 #[v,u] w (ztL w (n1 != n2) (x*y) (k1+k2)):=by
 obtain⟨a,c,l,rfl,h1,h2,h3,h4⟩:=hv.ex;obtain⟨b,d,m,rfl,g1,g2,g3,g4⟩:=hu.ex;have hl1:=h2.len;have hl2:=g2.len;obtain⟨H2,G2⟩:=hd2 h2 g2;clear hv hu h2 g2
 go_enter Tryz.func175,Tryz.ntmps175
 go_wp2_with fail
 have hT:=Two.mk' w (.bool n1) (.slice a l.length c) (.bool n2) (.slice b m.length d) 89;have hR:=za1.alloc ((w.alloc (.cells #[.bool n1,.slice a l.length c] 89)).alloc (.cells #[.bool n2,.slice b m.length d] 89)) (.bool false) (.slice none 0 0) 89;have hN:=zX.alloc ((w.alloc (.cells #[.bool n1,.slice a l.length c] 89)).alloc (.cells #[.bool n2,.slice b m.length d] 89)) #[.bool false,.slice none 0 0] 89 Yc;have hbA:Below ((w.alloc (.cells #[.bool n1,.slice a l.length c] 89)).alloc (.cells #[.bool n2,.slice b m.length d] 89)).heap.size ((w.alloc (.cells #[.bool n1,.slice a l.length c] 89)).alloc (.cells #[.bool n2,.slice b m.length d] 89)) _:=(Ze _ _).alloc (Za _) (.cells #[.bool false,.slice none 0 0] 89);have hXa:=hT.a.below hbA;have hXb:=hT.b.below hbA;have hB0:=hT.bl.trans (hbA.mono Yi);simp only[Zbg]at hR hN;generalize((w.alloc (.cells #[.bool n1,.slice a l.length c] 89)).alloc (.cells #[.bool n2,.slice b m.length d] 89)).alloc (.cells #[.bool false,.slice none 0 0] 89)=W at *;obtain⟨HXa,HXb,HR,HN,HB,H2W⟩:=hd6 hXa hXb hR hN hB0 (H2.out.below hB0);have G2W:=hid (G2.out.below hB0);have xbl:Below W.heap.size W W.drew:=(Ze _ _).drew;clear hT hR hN hbA hXa hXb hB0 H2 G2
 go_region_held3 (fun w'=>w'.cell? ⟨w.heap.size,0,none⟩=some (.bool n1)/\w'.cell? ⟨w.heap.size,1,none⟩=some (.slice a l.length c)/\w'.cell? ⟨w.heap.size+1,0,none⟩=some (.bool n2)/\w'.cell? ⟨w.heap.size+1,1,none⟩=some (.slice b m.length d))
  (first|exact zgp HXa.out HXb.out ‹Below W.heap.size W _› | exact zgN HXa.out HXb.out ‹Below W.heap.size W _› _ _)
  (first
   | (go_at_call 161; have hS := ‹Below W.heap.size W _›; refine (zs6 c d h1 g1 (H2W.out.below hS) (G2W.out.below hS) h3 g3 Ya).mono ?_; rintro e w1 ⟨a1, c1, rfl, p1, p2, p3⟩
      have hS1:=hS.trans (p3.mono hS.size))
   | (go_at_call 177; have hS := ‹Below W.heap.size W _›; refine (zpZ (n1 != n2) c1 (k1 + k2) p1 p2 (zg _) ?kk hr).mono ?_
      case kk=>exact zcO h3 g3 h4 g4 H2W.out.lim G2W.out.lim
      rintro e w2 ⟨v2,rfl,⟨a3,c3,l3,rfl,q1,q2,q3,q4⟩,q5⟩;have hS2:=hS.trans (q5.mono hS.size);obtain⟨r0,r1,rf,rlt⟩:=HR.out.below hS2;obtain⟨hN2,Q2⟩:=hd2 (HN.out.below hS2 HR.out.lt) q2;have hB2:=htr HB hS2))
 go_wp2;have hbf:=(hB2.out.setCell (p:=⟨w.heap.size+1+1,0,none⟩) (Zi (Zaj _) (Zaj _)) (.bool (n1 != n2 && !decide (x*y=0)))).setCell (p:=⟨w.heap.size+1+1,1,none⟩) (Zi (Zaj _) (Zaj _)) (.slice a3 l3.length c3)
 refine Zp (v:=.agg #[.bool (n1 != n2 && !decide (x*y=0)),.slice a3 l3.length c3]) (by simp[results,Tryz.results175,go_sem,r0,r1]) rfl ⟨_,rfl,⟨a3,c3,l3,Yc,q1,?_,q3,q4⟩,hbf⟩
 exact(Q2.out.setCell hN2.out _ _).setCell (hN2.out.setCell _ _ Yc) _ _
theorem zq3(b:Bool)(n:Nat):sgn (b && decide (n≠0)) n=sgn b n:=by
 by_cases h:n=0
 ·subst h;cases b<;>rfl
 ·simp[h]
theorem zom(b:Bool)(n:Nat):zdv (b && decide (n≠0)) n=zdv b n:=by
 by_cases h:n=0
 ·subst h;cases b<;>rfl
 ·simp[h]
theorem zko{w:World}(h:RatV w v x)(hr:x.num.length<=17592186044416):Calls Tryz.prog 176 #[v] w (ztL w x.neg (zo x.num) x.num.length):=by
 obtain⟨an,ad,cn,cd,rfl,h2,h3,h4,h5⟩:=h.ex;have hB0:Below w.heap.size w ((w.alloc (zbb x an cn ad cd 51)).alloc (.cells #[.bool false,.slice none 0 0] 89)):=
  ((Ze _ _).alloc (Za _) _).alloc Yc _
 have HM:=hid (zpZ x.neg cn x.num.length h2 (h4.below hB0) rfl (Za _) hr);have hR:=za1.alloc (w.alloc (zbb x an cn ad cd 51)) (.bool false) (.slice none 0 0) 89;have hN:=zX.alloc (w.alloc (zbb x an cn ad cd 51)) #[.bool false,.slice none 0 0] 89 Yc;simp only[Zbg]at hR hN;obtain⟨HR,HN,HB⟩:=hd3 hR hN hB0;clear h h4 h5 hB0 hR hN
 go_enter Tryz.func176,Tryz.ntmps176
 go_wp2_with fail
 refine HM.out.mono ?_
 rintro e w1 ⟨v1,rfl,⟨a1,c1,l1,rfl,p1,p2,p3,p4⟩,hb⟩;obtain⟨r0,r1,rf,rlt⟩:=HR.out.below hb;have HN1:=hid (HN.out.below hb HR.out.lt);have HB1:=htr HB hb;obtain⟨P2,P3⟩:=hd2 p2 p3;clear HM HR HN HB p2 hb p3;generalize hbb:(x.neg && decide (zo x.num≠0))=bb at *;have HBB:=hid hbb;clear hbb;go_wp2;have hbf:=(HB1.out.setCell (p:=⟨w.heap.size+1,0,none⟩) (Zaj _) (.bool bb)).setCell (p:=⟨w.heap.size+1,1,none⟩) (Zaj _) (.slice a1 l1.length c1);exact Zp (v:=.agg #[.bool bb,.slice a1 l1.length c1]) (by simp[results,Tryz.results176,go_sem,r0,r1]) rfl
  ⟨_,rfl,by rw[HBB.out];exact⟨a1,c1,l1,rfl,p1,(P2.out.setCell HN1.out _ _).setCell (HN1.out.setCell _ _ Yc) _ _,P3.out,p4⟩,hbf⟩
theorem ztK{w:World}(h:RatV w v x)(hr:x.num.length<=17592186044416):Calls Tryz.prog 162 #[v] w fun e w'=>e=.returned (.int .i64 (zdv x.neg (zo x.num)))/\Below w.heap.size w w':=by
 have HV:=hid h;obtain⟨an,ad,cn,cd,hv,h2,h3,h4,h5⟩:=h.ex;rw[hv]at HV⊢;have hB0:=blA w (zbb x an cn ad cd 51);obtain⟨HS,HB,HA⟩:=hd3 (zko (HV.out.below hB0) hr) hB0 (zom x.neg (zo x.num));clear h hv h4 h5 hB0 HV
 go_enter Tryz.func162,Tryz.ntmps162
 go_wp2_with fail
 refine HS.out.mono ?_
 rintro e w1 ⟨v1,rfl,hI,hb⟩;generalize(x.neg && decide (zo x.num≠0))=bb at *;have HI:=hid (zrW hI hr);have HB1:=htr HB hb;clear HS HB hI hb
 go_wp2_with fail
 refine HI.out.mono ?_
 rintro e w2 ⟨rfl,hb2⟩;go_wp2;go_ret;exact⟨zaD HA.out,HB1.out.trans (hb2.mono HB1.out.size)⟩
theorem za8{B:Nat}{t:Value}(hg:za4 W g p q r)(hh:za4 W h s t u)(h1:g<B)(h2:h<B)(hb:Below B W w1):
  w1.cell? ⟨g,0,none⟩=some p/\w1.cell? ⟨g,1,none⟩=some q/\w1.cell? ⟨g,2,none⟩=some r/\w1.cell? ⟨h,0,none⟩=some s/\w1.cell? ⟨h,1,none⟩=some t/\w1.cell? ⟨h,2,none⟩=some u:=
 ⟨(hb.cell h1).trans hg.c0,(hb.cell h1).trans hg.c1,(hb.cell h1).trans hg.c2,(hb.cell h2).trans hh.c0,(hb.cell h2).trans hh.c1,(hb.cell h2).trans hh.c2⟩
theorem zk1(b:Bool)(n m:Nat):sgn ((b && decide (n≠0)) != false && decide (n*m≠0)) (n*m)=sgn b (n*m):=by
 rw[zq3,Bool.bne_false]
 by_cases h:n=0
 ·subst h;rw[Zbe];cases b<;>rfl
 ·simp[h]
theorem zX.far{w:World}(hn:zX w g)(hne:h≠g)(o:Nat)(v:Value):zX (w.setCell ⟨h,o,none⟩ v) g:=fun o' x e=>hn o' x ((zeS hne).symm.trans e)
structure ztO (w W:World) (g:Nat) (p q r s t u:Value):Prop where
 a:za4 W g p q r
 b:za4 W (g+1) s t u
 c:za1 W (g+1+1) (.bool false) (.slice none 0 0)
 d:za1 W (g+1+1+1) (.bool false) (.slice none 0 0)
 nc:zX W (g+1+1)
 nd:zX W (g+1+1+1)
 bl:Below g w W
theorem ztO.mk'(w:World)(p q r s t u:Value)(T T':Nat):ztO w ((((w.alloc (.cells #[p,q,r] T)).alloc (.cells #[s,t,u] T)).alloc (.cells #[.bool false,.slice none 0 0] T')).alloc (.cells #[.bool false,.slice none 0 0] T')) w.heap.size p q r s t u:=by
 have step:∀(W:World) (o:Obj),Below W.heap.size W (W.alloc o):=fun W o=>(Ze _ _).alloc (Za _) _
 have s1:=step w (.cells #[p,q,r] T);have s2:=step (w.alloc (.cells #[p,q,r] T)) (.cells #[s,t,u] T);have s3:=step ((w.alloc (.cells #[p,q,r] T)).alloc (.cells #[s,t,u] T)) (.cells #[.bool false,.slice none 0 0] T');have s4:=step (((w.alloc (.cells #[p,q,r] T)).alloc (.cells #[s,t,u] T)).alloc (.cells #[.bool false,.slice none 0 0] T')) (.cells #[.bool false,.slice none 0 0] T');have b1:=za4.alloc w p q r T;have b2:=za4.alloc (w.alloc (.cells #[p,q,r] T)) s t u T;have b3:=za1.alloc ((w.alloc (.cells #[p,q,r] T)).alloc (.cells #[s,t,u] T)) (.bool false) (.slice none 0 0) T';have b4:=za1.alloc (((w.alloc (.cells #[p,q,r] T)).alloc (.cells #[s,t,u] T)).alloc (.cells #[.bool false,.slice none 0 0] T')) (.bool false) (.slice none 0 0) T';have n3:=zX.alloc ((w.alloc (.cells #[p,q,r] T)).alloc (.cells #[s,t,u] T)) #[.bool false,.slice none 0 0] T' Yc;have n4:=zX.alloc (((w.alloc (.cells #[p,q,r] T)).alloc (.cells #[s,t,u] T)).alloc (.cells #[.bool false,.slice none 0 0] T')) #[.bool false,.slice none 0 0] T' Yc;have n3':=n3.below s4 Yc;have b1':=((b1.below s2).below s3).below s4;have b2':=(b2.below s3).below s4;have b3':=b3.below s4;have bl:=((s1.trans (s2.mono Yc)).trans (s3.mono Yi)).trans (s4.mono Yi);simp only[Zbg]at b2' b3' b4 n3' n4;exact⟨b1',b2',b3',b4,n3',n4,bl⟩
def zup(w:World)(a b:zaf)(e:Ending)(w':World):Prop:=∃v u n1 n2,e=.returned (.tuple #[v,u])/\zc8 w' v n1 (zo a.num*zr b.den) (a.num.length+b.den.length+1)/\zc8 w' u n2 (zo b.num*zr a.den) (b.num.length+a.den.length+1)/\
 sgn n1 (zo a.num*zr b.den)=sgn a.neg (zo a.num*zr b.den)/\sgn n2 (zo b.num*zr a.den)=sgn b.neg (zo b.num*zr a.den)/\Below w.heap.size w w'
theorem zsk{w:World}{v u:Value}{x y:zaf}(hv:RatV w v x)(hu:RatV w u y)(h1:x.num.length<=1099511627776)(h2:x.den.length<=1099511627776)(h3:y.num.length<=1099511627776)(h4:y.den.length<=1099511627776):
  Calls Tryz.prog 159 #[v,u] w (zup w x y):=by
 obtain⟨HV,HU⟩:=hd2 hv hu;obtain⟨an,ad,cn,cd,hve,a2,a3,a4,a5⟩:=hv.ex;obtain⟨bn,bd,dn,dd,hue,b2,b3,b4,b5⟩:=hu.ex;rw[hve]at HV⊢;rw[hue]at HU⊢;have hl1:=a4.len;have hl2:=a5.len;have hl3:=b4.len;have hl4:=b5.len;clear hv hu hve hue a4 a5 b4 b5
 go_enter Tryz.func159,Tryz.ntmps159
 go_wp2_with fail
 have hF:=ztO.mk' w (.bool x.neg) (.slice an x.num.length cn) (.slice ad x.den.length cd) (.bool y.neg) (.slice bn y.num.length dn) (.slice bd y.den.length dd) 51 89;generalize(((w.alloc (zbb x an cn ad cd 51)).alloc (zbb y bn dn bd dd 51)).alloc (.cells #[.bool false,.slice none 0 0] 89)).alloc (.cells #[.bool false,.slice none 0 0] 89)=W at *;obtain⟨HF,HVW,HUW⟩:=hd3 hF (HV.out.below hF.bl) (HU.out.below hF.bl);have k2:x.den.length<=17592186044416:=Ya;have k4:y.den.length<=17592186044416:=Ya;have hgW:Hid (w.heap.size+1+1+1<W.heap.size):=hF.d.lt;have xbl:Below W.heap.size W W.drew:=(Ze _ _).drew;have tok1:True:=trivial;clear hF HV HU
 go_region_held3 (fun w'=>w'.cell? ⟨w.heap.size,0,none⟩=some (.bool x.neg)/\w'.cell? ⟨w.heap.size,1,none⟩=some (.slice an x.num.length cn)/\w'.cell? ⟨w.heap.size,2,none⟩=some (.slice ad x.den.length cd)/\
   w'.cell? ⟨w.heap.size+1,0,none⟩=some (.bool y.neg)/\w'.cell? ⟨w.heap.size+1,1,none⟩=some (.slice bn y.num.length dn)/\w'.cell? ⟨w.heap.size+1,2,none⟩=some (.slice bd y.den.length dd))
  (first|exact za8 HF.out.a HF.out.b HF.out.a.lt HF.out.b.lt ‹Below W.heap.size W _›)
  (first
   | (go_at_call 150; have _t := tok1; clear tok1; have hS := ‹Below W.heap.size W _›; refine (zgB (HVW.out.below hS) k2).mono ?_; rintro e w1 ⟨a1, c1, l1, rfl, p1, p2, p3, p4, p5⟩
      have hS1:=hS.trans (p5.mono hS.size);have P2:=hid p2;have P3:=hid p3;clear p2 p3)
   | (go_at_call 150; have hS := ‹Below W.heap.size W _›; refine (zgB (HUW.out.below hS) k4).mono ?_; rintro e w2 ⟨a2, c2, l2, rfl, q1, q2, q3, q4, q5⟩
      have hS2:=hS.trans (q5.mono hS.size);have P2':=hid (P2.out.below q5);have Q2:=hid q2;have Q3:=hid q3;clear q2 q3))
 go_wp2_with fail
 obtain⟨Q2d,P2d⟩:=hd2 (Q2.out.below ((Ze w2.heap.size w2).drew)) (P2'.out.below ((Ze w2.heap.size w2).drew));have xbl2:Below W.heap.size W w2.drew:=hS2.drew;have hk1:x.num.length<=17592186044416:=Ya;have hk3:y.num.length<=17592186044416:=Ya;have IQ:∀wv:World,zw wv a2 l2->zc8 wv (.agg #[.bool false,.slice a2 l2.length c2]) false (zr y.den) (y.den.length+1):=fun _ hh=>⟨a2,c2,l2,rfl,q1,hh,Q3.out,q4⟩
 have IP:∀wv:World,zw wv a1 l1->zc8 wv (.agg #[.bool false,.slice a1 l1.length c1]) false (zr x.den) (x.den.length+1):=fun _ hh=>⟨a1,c1,l1,rfl,p1,hh,P3.out,p4⟩
 obtain⟨HIQ,HIP⟩:=hd2 IQ IP;have tok3:True:=trivial;have tok4:True:=trivial;clear Q2 P2' P2 hS1 xbl hS2 p5 q5 IQ IP
 go_region_held3 (fun w'=>w'.cell? ⟨w.heap.size,0,none⟩=some (.bool x.neg)/\w'.cell? ⟨w.heap.size,1,none⟩=some (.slice an x.num.length cn)/\w'.cell? ⟨w.heap.size,2,none⟩=some (.slice ad x.den.length cd)/\
   w'.cell? ⟨w.heap.size+1,0,none⟩=some (.bool y.neg)/\w'.cell? ⟨w.heap.size+1,1,none⟩=some (.slice bn y.num.length dn)/\w'.cell? ⟨w.heap.size+1,2,none⟩=some (.slice bd y.den.length dd))
  (first
   | exact za8 HF.out.a HF.out.b HF.out.a.lt HF.out.b.lt ‹Below W.heap.size W _›
   | exact za8 (B:=w.heap.size+1+1) HF.out.a HF.out.b (Nat.lt_succ_of_lt (Zaa _)) (Zaa _) (((hS6.mono (Zan HF.out.c.lt)).setCell (p:=⟨w.heap.size+1+1,0,none⟩) (Za _) _).setCell (p:=⟨w.heap.size+1+1,1,none⟩) (Za _) _)
   | exact za8 (B:=w.heap.size+1+1) HF.out.a HF.out.b (Nat.lt_succ_of_lt (Zaa _)) (Zaa _) (((((hS6.mono (Zan HF.out.c.lt)).setCell (p:=⟨w.heap.size+1+1,0,none⟩) (Za _) _).setCell (p:=⟨w.heap.size+1+1,1,none⟩) (Za _) _).setCell (p:=⟨w.heap.size+1+1+1,0,none⟩) (Zaj _) _).setCell (p:=⟨w.heap.size+1+1+1,1,none⟩) (Zaj _) _))
  (first
   | (go_at_call 176; have _t := tok3; clear tok3; have hS := ‹Below W.heap.size W _›; refine (zko (HVW.out.below hS) hk1).mono ?_; rintro e w3 ⟨v3, rfl, i3, hb3⟩
      have hS3:=hS.trans (hb3.mono hS.size);have I3:=hid i3;have Q2e:=hid (Q2d.out.below hb3);have P2e:=hid (P2d.out.below hb3);clear i3)
   | (go_at_call 175; have _t := tok4; clear tok4; have hS := ‹Below W.heap.size W _›; refine (zt8 I3.out (HIQ.out _ Q2e.out) Ya).mono ?_; rintro e w4 ⟨v4, rfl, ⟨a4, c4, l4, rfl, m1, m2, m3, m4⟩, hb4⟩
      have hS4:=hS.trans (hb4.mono hS.size);have M2:=hid m2;have P2f:=hid (P2e.out.below hb4);clear m2;generalize hn4:((x.neg && decide (zo x.num≠0)) != false && decide (zo x.num*zr y.den≠0))=nn1;have N4:=hid hn4;have M3:=hid m3;clear hn4 m3)
   | (go_at_call 176; have hS := ‹Below W.heap.size W _›; refine (zko (HUW.out.below hS) hk3).mono ?_; rintro e w5 ⟨v5, rfl, i5, hb5⟩
      have hS5:=hS.trans (hb5.mono hS.size);have I5:=hid i5;have P2g:=hid (P2f.out.below hb5);have M2':=hid (M2.out.below hb5);clear i5)
   | (go_at_call 175; have hS := ‹Below W.heap.size W _›; refine (zt8 I5.out (HIP.out _ P2g.out) Ya).mono ?_; rintro e w6 ⟨v6, rfl, ⟨a6, c6, l6, rfl, t1, t2, t3, t4⟩, hb6⟩
      have hS6:=hS.trans (hb6.mono hS.size);have T2:=hid t2;have M2'':=hid (M2'.out.below hb6);clear t2;generalize hn6:((y.neg && decide (zo y.num≠0)) != false && decide (zo y.num*zr x.den≠0))=nn2;have N6:=hid hn6;have T3:=hid t3;clear hn6 t3;obtain⟨r0,r1,rf,rlt⟩:=HF.out.c.below hS6;obtain⟨s0,s1,sf,slt⟩:=HF.out.d.below hS6))
 obtain⟨hBf,hn1,hn2⟩:=hd3 (HF.out.bl.trans (hS6.mono Yv)) (HF.out.nc.below hS6 HF.out.c.lt) (HF.out.nd.below hS6 HF.out.d.lt);go_wp2;have hbf:=(((hBf.out.setCell (p:=⟨w.heap.size+1+1,0,none⟩) (Zi (Zaj _) (Zaj _)) (.bool nn1)).setCell (p:=⟨w.heap.size+1+1,1,none⟩) (Zi (Zaj _) (Zaj _)) (.slice a4 l4.length c4)).setCell
  (p:=⟨w.heap.size+1+1+1,0,none⟩) (Zi (Zaj _) (Zi (Zaj _) (Zaj _))) (.bool nn2)).setCell (p:=⟨w.heap.size+1+1+1,1,none⟩) (Zi (Zaj _) (Zi (Zaj _) (Zaj _))) (.slice a6 l6.length c6)
 have c1':((w6.setCell ⟨w.heap.size+1+1,0,none⟩ (.bool nn1)).setCell ⟨w.heap.size+1+1,1,none⟩ (.slice a4 l4.length c4)).cell? ⟨w.heap.size+1+1+1,0,none⟩=some (.bool false):=by rw[zeS Ya,zeS Ya];exact s0
 have c2':((w6.setCell ⟨w.heap.size+1+1,0,none⟩ (.bool nn1)).setCell ⟨w.heap.size+1+1,1,none⟩ (.slice a4 l4.length c4)).cell? ⟨w.heap.size+1+1+1,1,none⟩=some (.slice none 0 0):=by rw[zeS Ya,zeS Ya];exact s1
 have hn2':=hn2.out.far (h:=w.heap.size+1+1) Ya 0 (.bool nn1);have hn2'':=hn2'.far (h:=w.heap.size+1+1) Ya 1 (.slice a4 l4.length c4);have hn3:=hn2''.setCell 0 (.bool nn2) Yc;have q1:=((M2''.out.setCell hn1.out 0 (.bool nn1)).setCell (hn1.out.setCell _ _ Yc) 1 (.slice a4 l4.length c4))
 have q2:=(q1.setCell hn2'' 0 (.bool nn2)).setCell hn3 1 (.slice a6 l6.length c6);have t1':=((T2.out.setCell hn1.out 0 (.bool nn1)).setCell (hn1.out.setCell _ _ Yc) 1 (.slice a4 l4.length c4))
 have t2':=(t1'.setCell hn2'' 0 (.bool nn2)).setCell hn3 1 (.slice a6 l6.length c6)
 refine Zp (v:=.tuple #[.agg #[.bool nn1,.slice a4 l4.length c4],.agg #[.bool nn2,.slice a6 l6.length c6]]) ?_ rfl ⟨_,_,nn1,nn2,rfl,⟨a4,c4,l4,rfl,m1,q2,M3.out,Ya⟩,⟨a6,c6,l6,rfl,t1,t2',T3.out,Ya⟩,?_,?_,hbf⟩
 ·simp[results,Tryz.results159,go_sem,r0,r1,c1',c2',zeS]
 ·rw[<- N4.out];exact zk1 _ _ _
 ·rw[<- N6.out];exact zk1 _ _ _
def zi0(n lo hi:Int):Bool:=decide (lo<=n/\n<=hi)
theorem zld{n lo hi:Int}:zi0 n lo hi=true ↔ lo<=n/\n<=hi:=by unfold zi0;rw[ZC]
structure zm (w:World) (a:Option Addr) (L:List zaf):Prop where
 len:L.length<=9223372036854775807
 row:L=[] ∨ ∃b off,a=some ⟨b,off,none⟩/\b<w.heap.size/\∀(j:Nat) (x:zaf),L[j]? =some x->∃(an ad:Option Addr) (cn cd:Nat),w.cell? ⟨b,off+j*3,none⟩=some (.bool x.neg)/\w.cell? ⟨b,off+j*3+1,none⟩=some (.slice an x.num.length cn)/\w.cell? ⟨b,off+j*3+2,none⟩=some (.slice ad x.den.length cd)/\
  RatV w (.agg #[.bool x.neg,.slice an x.num.length cn,.slice ad x.den.length cd]) x
theorem zm.below{w:World}{a:Option Addr}(h:zm w a L)(hb:Below w.heap.size w w'):zm w' a L:=by
 refine⟨h.len,h.row.imp id ?_⟩
 rintro⟨b,off,rfl,hs,hc⟩
 refine⟨b,off,rfl,Zb hs hb.size,fun j x hj=>?_⟩
 obtain⟨an,ad,cn,cd,h1,h2,h3,h4⟩:=hc j x hj;exact⟨an,ad,cn,cd,(hb.cell hs).trans h1,(hb.cell hs).trans h2,(hb.cell hs).trans h3,h4.below hb⟩
theorem zm.pick{w:World}{a:Option Addr}(h:zm w a L)(hk:k<L.length):
  ∃b off x an ad cn cd,a=some ⟨b,off,none⟩/\b<w.heap.size/\L[k]? =some x/\w.cell? ⟨b,off+k*3,none⟩=some (.bool x.neg)/\w.cell? ⟨b,off+k*3+1,none⟩=some (.slice an x.num.length cn)/\w.cell? ⟨b,off+k*3+2,none⟩=some (.slice ad x.den.length cd)/\
   RatV w (.agg #[.bool x.neg,.slice an x.num.length cn,.slice ad x.den.length cd]) x:=by
 rcases h.row with rfl|⟨b,off,rfl,hb,hc⟩
 ·simp at hk
 ·have hd:L[k]? =some L[k]:=JR;obtain⟨an,ad,cn,cd,h1,h2,h3,h4⟩:=hc k _ hd;exact⟨b,off,L[k],an,ad,cn,cd,rfl,hb,hd,h1,h2,h3,h4⟩
theorem zar{α:Type}{l:List α}{x:α}(hx:l[k]? =some x):l.take (k+1)=l.take k++[x]:=by
 rw[Zap,hx];rfl
structure zac where
 kind:Int
 frm:Int
 out:Int
 kh:Int
 kw:Int
 stride:Int
 pad:Int
 weights:List zaf
 bias:List zaf
abbrev zbG(l:zac)(b1:Option Addr)(d1:Nat)(b2:Option Addr)(d2:Nat)(T:Nat):Obj:=.cells #[.int .i64 l.kind,.int .i64 l.frm,.int .i64 l.out,.int .i64 l.kh,.int .i64 l.kw,.int .i64 l.stride,.int .i64 l.pad,.slice b1 l.weights.length d1,.slice b2 l.bias.length d2] T
structure zec where
 input:List Int
 layers:List zac
structure zcV (w:World) (v:Value) (l:zac):Prop where
 ex:∃(a1 a2:Option Addr) (c1 c2:Nat),v=.agg #[.int .i64 l.kind,.int .i64 l.frm,.int .i64 l.out,.int .i64 l.kh,.int .i64 l.kw,.int .i64 l.stride,.int .i64 l.pad,.slice a1 l.weights.length c1,.slice a2 l.bias.length c2]/\zm w a1 l.weights/\zm w a2 l.bias
theorem zcV.below{w:World}{l:zac}(h:zcV w v l)(hb:Below w.heap.size w w'):zcV w' v l:=by
 obtain⟨a1,a2,c1,c2,e,h1,h2⟩:=h.ex;exact⟨a1,a2,c1,c2,e,h1.below hb,h2.below hb⟩
def zkH(w:World)(b o:Nat)(l:zac):Prop:=∃(a1 a2:Option Addr) (c1 c2:Nat),
 (w.cell? ⟨b,o,none⟩=some (.int .i64 l.kind)/\w.cell? ⟨b,o+1,none⟩=some (.int .i64 l.frm)/\w.cell? ⟨b,o+2,none⟩=some (.int .i64 l.out)/\w.cell? ⟨b,o+3,none⟩=some (.int .i64 l.kh)/\
  w.cell? ⟨b,o+4,none⟩=some (.int .i64 l.kw)/\w.cell? ⟨b,o+5,none⟩=some (.int .i64 l.stride)/\w.cell? ⟨b,o+6,none⟩=some (.int .i64 l.pad)/\w.cell? ⟨b,o+7,none⟩=some (.slice a1 l.weights.length c1)/\w.cell? ⟨b,o+8,none⟩=some (.slice a2 l.bias.length c2))/\
 zm w a1 l.weights/\zm w a2 l.bias
theorem zkH.below{w:World}{b:Nat}{l:zac}(h:zkH w b o l)(hl:b<w.heap.size)(hb:Below w.heap.size w w'):zkH w' b o l:=by
 obtain⟨a1,a2,c1,c2,⟨h0,h1,h2,h3,h4,h5,h6,h7,h8⟩,k1,k2⟩:=h;exact⟨a1,a2,c1,c2,⟨(hb.cell hl).trans h0,(hb.cell hl).trans h1,(hb.cell hl).trans h2,(hb.cell hl).trans h3,(hb.cell hl).trans h4,(hb.cell hl).trans h5,(hb.cell hl).trans h6,(hb.cell hl).trans h7,(hb.cell hl).trans h8⟩,k1.below hb,k2.below hb⟩
structure zaK (w:World) (a:Option Addr) (L:List zac):Prop where
 len:L.length<=9223372036854775807
 row:L=[] ∨ ∃b off,a=some ⟨b,off,none⟩/\b<w.heap.size/\∀(j:Nat) (x:zac),L[j]? =some x->zkH w b (off+j*9) x
theorem zaK.below{w:World}{a:Option Addr}{L:List zac}(h:zaK w a L)(hb:Below w.heap.size w w'):zaK w' a L:=by
 refine⟨h.len,h.row.imp id ?_⟩
 rintro⟨b,off,rfl,hs,hc⟩;exact⟨b,off,rfl,Zb hs hb.size,fun j x hj=>(hc j x hj).below hs hb⟩
theorem zaK.pick{w:World}{a:Option Addr}{L:List zac}(h:zaK w a L)(hk:k<L.length):
  ∃b off x,a=some ⟨b,off,none⟩/\b<w.heap.size/\L[k]? =some x/\zkH w b (off+k*9) x:=by
 rcases h.row with rfl|⟨b,off,rfl,hb,hc⟩
 ·simp at hk
 ·have hd:L[k]? =some L[k]:=JR;exact⟨b,off,L[k],rfl,hb,hd,hc k _ hd⟩
theorem zaK.nil(w:World)(a:Option Addr):zaK w a []:=⟨Yc,.inl rfl⟩
structure zow (w:World) (g:Nat) (p0 p1 p2 p3 p4 p5 p6 p7 p8:Value):Prop where
 c0:w.cell? ⟨g,0,none⟩=some p0
 c1:w.cell? ⟨g,1,none⟩=some p1
 c2:w.cell? ⟨g,2,none⟩=some p2
 c3:w.cell? ⟨g,3,none⟩=some p3
 c4:w.cell? ⟨g,4,none⟩=some p4
 c5:w.cell? ⟨g,5,none⟩=some p5
 c6:w.cell? ⟨g,6,none⟩=some p6
 c7:w.cell? ⟨g,7,none⟩=some p7
 c8:w.cell? ⟨g,8,none⟩=some p8
 lt:g<w.heap.size
theorem zow.below{w:World}{p0 p1 p2 p3 p4 p5 p6 p7 p8:Value}(h:zow w g p0 p1 p2 p3 p4 p5 p6 p7 p8)(hb:Below w.heap.size w w'):zow w' g p0 p1 p2 p3 p4 p5 p6 p7 p8:=
 ⟨(hb.cell h.lt).trans h.c0,(hb.cell h.lt).trans h.c1,(hb.cell h.lt).trans h.c2,(hb.cell h.lt).trans h.c3,(hb.cell h.lt).trans h.c4,(hb.cell h.lt).trans h.c5,(hb.cell h.lt).trans h.c6,(hb.cell h.lt).trans h.c7,(hb.cell h.lt).trans h.c8,Zb h.lt hb.size⟩
theorem zow.alloc(w:World)(p0 p1 p2 p3 p4 p5 p6 p7 p8:Value)(T:Nat):zow (w.alloc (.cells #[p0,p1,p2,p3,p4,p5,p6,p7,p8] T)) w.heap.size p0 p1 p2 p3 p4 p5 p6 p7 p8:=by
 refine⟨?_,?_,?_,?_,?_,?_,?_,?_,?_,Yc⟩<;>(rw[World.cell?_alloc_at _ _ _ _ rfl];rfl)
def zc6(n:Int):Bool:=decide (1<=n) && decide (n<=64)
def zdo(l:zac):Bool:=zc6 l.kh && (zc6 l.kw && zc6 l.stride)
def zhx(l:zac):Bool:=decide (1<=l.out) && decide (l.out<=16384)
def zjJ(l:zac)(n:Int):Bool:=decide ((l.bias.length:Int)=l.out) && (decide (0<l.weights.length) && (decide (l.weights.length<=16384) && decide ((l.weights.length:Int)%n=0)))
def zia(l:zac):Bool:=decide (l.weights=[]) && decide (l.bias=[])
def zcT(l:zac)(i:Int):Bool:=
 if l.kind=1 then zhx l && (zjJ l l.out && decide (l.frm=0/\l.kh=0/\l.kw=0/\l.stride=0/\l.pad=0))
 else if l.kind=2 then zhx l && (zdo l && (decide (0<=l.pad) && (decide (l.pad<l.kh) && (decide (l.pad<l.kw) && (zjJ l (l.out*l.kh*l.kw) && decide (l.frm=0))))))
 else if l.kind=3∨l.kind=4 then zdo l && (decide (l.frm=0/\l.out=0/\l.pad=0) && zia l)
 else if l.kind=5∨l.kind=6 then decide (l.frm=0/\l.out=0/\l.kh=0/\l.kw=0/\l.stride=0/\l.pad=0) && zia l
 else if l.kind=7 then decide (-1<=l.frm) && (decide (l.frm<i) && (decide (l.out=0/\l.kh=0/\l.kw=0/\l.stride=0/\l.pad=0) && zia l))
 else false
def zeC(l:zac):Bool:=l.weights.all zP && l.bias.all zP
def zai(l:zac)(i:Int):Bool:=zcT l i && zeC l
def zam:List zac->Int->Bool
 | [],_=>true
 | l::r,i=>zai l i && zam r (i+1)
def zbe(m:zec):Bool:=zk m.input && (decide (m.layers.length<=64) && zam m.layers 0)
def zbV:zac:=⟨5,0,0,0,0,0,0,[],[]⟩
theorem zlP(i:Int):zai zbV i=true:=by
 simp[zai,zcT,zbV,zeC,zia]
theorem zg3(A B:List zac)(i:Int):zam (A++B) i=(zam A i && zam B (i+A.length)):=by
 induction A generalizing i with
 | nil=>simp[zam]
 | cons a r ih=>
  show(zai a i && zam (r++B) (i+1))=((zai a i && zam r (i+1)) && zam B (i+((r.length+1:Nat):Int)))
  have e:i+1+(r.length:Int)=i+((r.length+1:Nat):Int):=Ya;rw[ih,Bool.and_assoc,e]
theorem ziW(n:Nat)(i:Int):zam (List.replicate n zbV) i=true:=by
 induction n generalizing i with
 | zero=>rfl
 | succ n ih=>
  rw[List.replicate_succ];show(zai zbV i && zam (List.replicate n zbV) (i+1))=true
  rw[zlP,ih];rfl
theorem zfS(input:List Int)(n:Nat)(l:zac):zbe ⟨input,List.replicate n zbV++[l]⟩=(zk input && (decide (n+1<=64) && zai l n)):=by
 unfold zbe;simp only[zg3,ziW,ZE,Zbj,ZH,Zax,zam,Bool.and_true,Z4,Int.zero_add,ZR]
theorem zkC{L:List zac}{i:Int}{j:Nat}{l:zac}(h:zam L i=true)(hj:L[j]? =some l):zai l (i+j)=true:=by
 induction L generalizing i j with
 | nil=>simp at hj
 | cons a r ih=>
  unfold zam at h;rw[Zu]at h
  cases j with
  | zero=>simp at hj;subst hj;simpa using h.1
  | succ j=>
   have:=ih h.2 (j:=j) Uf;rw[show i+((j+1:Nat):Int)=i+1+(j:Int)from Ya];exact this
theorem zi6{m:zec}(h:zbe m=true):zk m.input=true/\m.layers.length<=64/\∀(j:Nat) (l:zac),m.layers[j]? =some l->zai l j=true:=by
 unfold zbe at h;simp only[Zu,ZC]at h
 refine⟨h.1,h.2.1,fun j l hj=>?_⟩
 have:=zkC h.2.2 hj
 simpa using this
def zh(input:List Int)(shapes:List (List Int)):List Int:=shapes.getLast?.getD input
def zay(s:List Int)(l:zac):Int×Int×Int:=(zB s l.kh l.kw l.stride l.pad).2
def za9(input:List Int)(shapes:List (List Int))(l:zac):List Int×Bool:=
 if l.kind=1 then([l.out],decide ((l.weights.length:Int)=l.out*zt (zh input shapes)))
 else if l.kind=2 then([l.out,(zay (zh input shapes) l).1,(zay (zh input shapes) l).2.1],decide ((zay (zh input shapes) l).2.2=0) && decide ((l.weights.length:Int)=l.out*(zh input shapes).getD 0 0*l.kh*l.kw))
 else if l.kind=3∨l.kind=4 then([(zh input shapes).getD 0 0,(zay (zh input shapes) l).1,(zay (zh input shapes) l).2.1],decide ((zay (zh input shapes) l).2.2=0))
 else if l.kind=6 then([zt (zh input shapes)],true)
 else if l.kind=7 then(zh input shapes,zb9 (if 0<=l.frm then shapes.getD l.frm.toNat []else input) (zh input shapes))
 else(zh input shapes,true)
def zL(input:List Int)(shapes:List (List Int))(l:zac):List Int×Int:=
 if(zk input && (decide (shapes.length+1<=64) && zai l shapes.length)) && shapes.all zk then
  (if(za9 input shapes l).2 && zk (za9 input shapes l).1 then((za9 input shapes l).1,0)else([],7))
 else([],1)
def zW(input:List Int):List (List Int)->List zac->List (List Int)×Int×Int
 | S,[]=>(S,0,0)
 | S,l::r=>if(zL input S l).2=0 then zW input (S++[(zL input S l).1]) r else([],S.length,(zL input S l).2)
def zI(m:zec):List (List Int)×Int×Int:=if zbe m then zW m.input [] m.layers else([],0,1)
abbrev b9l(w:World)(l:zac)(x:Option Addr)(i:Nat)(y:Option Addr)(j T:Nat):=zow.alloc w (.int .i64 l.kind) (.int .i64 l.frm) (.int .i64 l.out) (.int .i64 l.kh) (.int .i64 l.kw) (.int .i64 l.stride) (.int .i64 l.pad) (.slice x l.weights.length i) (.slice y l.bias.length j) T
theorem zra(n:Int)(w:World):Calls Tryz.prog 149 #[.int .i64 n] w fun e w'=>e=.returned (.bool (zc6 n))/\w=w':=by
 by_cases h1:1<=n
 ·by_cases h2:n<=64
  ·have HS:=hid (show zc6 n=true by simp[zc6,h1,h2])
   go_enter Tryz.func149,Tryz.ntmps149
   go_wp2;go_ret;exact Ia
  ·have HS:=hid (show zc6 n=false by simp[zc6,h2])
   go_enter Tryz.func149,Tryz.ntmps149
   go_wp2;go_ret;exact Ia
 ·have HS:=hid (show zc6 n=false by simp[zc6,h1])
  go_enter Tryz.func149,Tryz.ntmps149
  go_wp2;go_ret;exact Ia
theorem zqk{w:World}{a b:Option Addr}{l:List Nat}(c d:Nat)(h:zw w a l)(g:zw w b m):
  Calls Tryz.prog 165 #[.slice a l.length c,.slice b m.length d] w fun e w'=>e=.returned (.bool (decide (l=m)))/\Below w.heap.size w w':=by
 have hl:=h.len;have hm:=g.len;obtain⟨HA,HB,HBn⟩:=hd3 h g (fun n=>Below.drewN_refl w n);clear h g
 go_enter Tryz.func165,Tryz.ntmps165
 by_cases he:l.length=m.length
 ·have HE:=hid he;have hlb:decide (¬ (l.length:Int)=(m.length:Int))=false:=Yi;have hlc:((l.length:Int)==(m.length:Int))=true:=Yi;have hge1:l.length<=m.length:=Ya;have hge2:m.length<=l.length:=Ya;go_wp2
  go_loopw [5,13] (fun _ i wr=>∃j:Nat,j<=l.length/\i=.int .i64 (j:Int)/\Hid (l.take j=m.take j)/\Hid (∃n,wr=w.drewN n)) (fun _ i _=>l.length-(intOf i).toNat)
  case atStart=>exact⟨0,Zs _,rfl,Xq,0,rfl⟩
  case round=>
   obtain⟨j,hj,rfl,HT,HN⟩:=hrel;obtain⟨nd,rfl⟩:=HN.out
   by_cases hlt:j<l.length
   ·have hltm:j<m.length:=Ya;obtain⟨p1,o1,rfl,_,cA⟩:=HA.out.pick hlt;obtain⟨p2,o2,rfl,_,cB⟩:=HB.out.pick hltm;obtain⟨TA,TB,GA,GB⟩:=hd4 (zar (zef hlt)) (zar (zef hltm)) (zef hlt) (zef hltm);generalize dig l j=x at *;generalize dig m j=y at *
    by_cases hxy:x=y
    ·exact On
    ·have hne:Hid (decide (l=m)=false):=by
      unfold Hid;rw[Zag];rintro rfl;have h1:=GA.out.symm.trans GB.out;cases h1;exact hxy rfl
     have hxb:((x:Int)==(y:Int))=false:=bn0 Ya;go_wp2
     go_quiet (fail)
     go_wp2;go_ret;exact⟨Kt,by rw[World.drewN_drewN];exact HBn.out _⟩
   ·obtain rfl:j=l.length:=Ya;have he2:Hid (decide (l=m)=true):=Ol;go_wp2;go_ret;exact⟨by rw[he2.out];rfl,HBn.out _⟩
 ·have hne:Hid (decide (l=m)=false):=Oj;go_wp2;go_ret;exact⟨Kt,Ze _ _⟩
def zqG(x y:zaf):Bool:=(x.neg==y.neg) && (decide (x.num=y.num) && decide (x.den=y.den))
theorem zrQ(x y:zaf):zqG x y=decide (x=y):=by
 unfold zqG;rw[ZZ];simp only[Zu,ZaS,ZC]
 constructor
 ·rintro⟨h1,h2,h3⟩;cases x;cases y;simp only at h1 h2 h3;rw[h1,h2,h3]
 ·rintro rfl;exact⟨rfl,rfl,rfl⟩
theorem zr1{w:World}{v u:Value}{x y:zaf}(hv:RatV w v x)(hu:RatV w u y):
  Calls Tryz.prog 164 #[v,u] w fun e w'=>e=.returned (.bool (decide (x=y)))/\Below w.heap.size w w':=by
 rw[<- zrQ];obtain⟨an,ad,cn,cd,rfl,a2,a3,a4,a5⟩:=hv.ex;obtain⟨bn,bd,dn,dd,rfl,b2,b3,b4,b5⟩:=hu.ex;have q1:=a4.len;have q2:=a5.len;have q3:=b4.len;have q4:=b5.len;obtain⟨H4,H5,G4,G5⟩:=hd4 a4 a5 b4 b5;clear hv hu a4 a5 b4 b5
 go_enter Tryz.func164,Tryz.ntmps164
 go_upto_region 1 with fail
 have hbA:=blA w (zbb x an cn ad cd 51);have hx:=za4.alloc w (.bool x.neg) (.slice an x.num.length cn) (.slice ad x.den.length cd) 51;generalize hW:w.alloc (zbb x an cn ad cd 51)=W at *;have hsz:W.heap.size=w.heap.size+1:=by rw[<- hW];simp
 have hbB:=blA W (zbb y bn dn bd dd 51);have hy:=za4.alloc W (.bool y.neg) (.slice bn y.num.length dn) (.slice bd y.den.length dd) 51;rw[hsz]at hy;generalize W.alloc (zbb y bn dn bd dd 51)=V at *;obtain⟨HX,HY,HB⟩:=hd3 (hx.below hbB) hy (hbA.trans (hbB.mono hbA.size));clear hx hy hbA hbB hW hsz;obtain⟨x0,x1,x2,_,xlt⟩:=HX.out;obtain⟨y0,y1,y2,_,ylt⟩:=HY.out
 cases e1:(x.neg==y.neg)with
 | false=>
  have HR:Hid (zqG x y=false):=by unfold Hid zqG;rw[e1];rfl
  go_wp2;go_ret;exact Tp
 | true=>
  have HC:=hid (zqk cn dn (H4.out.below HB.out) (G4.out.below HB.out))
  cases e2:decide (x.num=y.num)with
  | false=>
   have HR:Hid (zqG x y=false):=by unfold Hid zqG;rw[e1,e2];rfl
   rw[e2]at HC;clear e2
   go_wp2_with fail
   refine HC.out.mono ?_
   rintro e w1 ⟨rfl,hb1⟩;have HB1:=htr HB hb1;clear hb1 x0 x1 x2 y0 y1 y2;go_wp2;go_ret;exact⟨zi HR.out.symm,HB1.out⟩
  | true=>
   have HR:Hid (zqG x y=decide (x.den=y.den)):=by unfold Hid zqG;rw[e1,e2];rfl
   rw[e2]at HC;clear e2
   go_wp2_with fail
   refine HC.out.mono ?_
   rintro e w1 ⟨rfl,hb1⟩;have HB1:=htr HB hb1;obtain⟨z0,z1,z2,_,zlt⟩:=HX.out.below hb1;obtain⟨t0,t1,t2,_,tlt⟩:=HY.out.below hb1;have HC2:=hid (zqk cd dd (H5.out.below HB1.out) (G5.out.below HB1.out));generalize decide (x.den=y.den)=R at *;clear hb1 x0 x1 x2 y0 y1 y2
   go_wp2_with fail
   refine HC2.out.mono ?_
   rintro e w2 ⟨rfl,hb2⟩;have HB2:=htr HB1 hb2;clear hb2 z0 z1 z2 t0 t1 t2;go_wp2;go_ret;exact U7
theorem zlv{w:World}{a b:Option Addr}(c d:Nat)(h:zm w a L)(g:zm w b M):
  Calls Tryz.prog 163 #[.slice a L.length c,.slice b M.length d,.func (.func 164) #[] #[]] w fun e w'=>e=.returned (.bool (decide (L=M)))/\Below w.heap.size w w':=by
 have hl:=h.len;have hm:=g.len;obtain⟨HA,HG⟩:=hd2 h g;clear h g
 by_cases he:L.length=M.length
 ·have HE:=hid he;have hlb:decide (¬ (L.length:Int)=(M.length:Int))=false:=Yi;have hlc:((L.length:Int)==(M.length:Int))=true:=Yi;have hld:((L.length:Int) != (M.length:Int))=false:=Uc;have hge1:L.length<=M.length:=Ya;have hge2:M.length<=L.length:=Ya
  go_enter Tryz.func163,Tryz.ntmps163
  clear he;go_wp2
  go_loopw [7,8,9,17] (fun _ _ _ i wr=>∃j:Nat,j<=L.length/\i=.int .i64 (j:Int)/\Hid (L.take j=M.take j)/\Hid (Below w.heap.size w wr)) (fun _ _ _ i _=>L.length-(intOf i).toNat)
  case atStart=>exact⟨0,Zs _,rfl,Xq,Ze _ _⟩
  case round=>
   obtain⟨j,hj,rfl,HT,HB⟩:=hrel
   by_cases hlt:j<L.length
   ·have hltm:j<M.length:=Ya;obtain⟨b1,o1,x,an,ad,cn,cd,rfl,hb1,hx,p0,p1,p2,hv⟩:=(HA.out.below HB.out).pick hlt;obtain⟨b2,o2,y,bn,bd,dn,dd,rfl,hb2,hy,r0,r1,r2,hu⟩:=(HG.out.below HB.out).pick hltm;obtain⟨HXx,HYy,TA,TB,HC⟩:=hd5 hx hy (zar hx) (zar hy) (fun wv (hb:Below wr.heap.size wr wv)=>zr1 (hv.below hb) (hu.below hb));have hal:=blA wr (zbb x an cn ad cd 51);have hal2:=hal.trans (((Ze _ (wr.alloc (zbb x an cn ad cd 51))).alloc (Za _) (zbb y bn dn bd dd 51)).mono hal.size);have HAl:=hid hal2;clear hx hy hv hu hal hal2
    go_wp2_with fail
    refine(HC.out _ HAl.out).mono ?_
    rintro e w2 ⟨rfl,hw2⟩;have HB2:=hid (HB.out.trans ((HAl.out.trans (hw2.mono HAl.out.size)).mono HB.out.size));clear hw2 HAl HC p0 p1 p2 r0 r1 r2
    by_cases hxy:x=y
    ·have e1:decide (x=y)=true:=Zk hxy;have HXY:=hid hxy;clear hxy;go_wp2;go_roundw
     case rel=>exact⟨j+1,hlt,Yg,Je,HB2.out⟩
     case measure=>simp[intOf];omega
    ·have e1:decide (x=y)=false:=Zj hxy;have hne:Hid (decide (L=M)=false):=by
      unfold Hid;rw[Zag];rintro rfl;have h1:=HXx.out.symm.trans HYy.out;cases h1;exact hxy rfl
     clear hxy;go_wp2;go_ret;exact⟨zi hne.out.symm,HB2.out⟩
   ·obtain rfl:j=L.length:=Ya;have he2:Hid (decide (L=M)=true):=Ol;go_wp2;go_ret;exact⟨zi he2.out.symm,HB.out⟩
 ·have hne:Hid (decide (L=M)=false):=Oj
  go_enter Tryz.func163,Tryz.ntmps163
  go_wp2;go_ret;exact⟨zi hne.out.symm,Ze _ _⟩
theorem zsz{w:World}{a b:Option Addr}(c d:Nat)(h:zm w a L)(g:zm w b M):
  Calls Tryz.prog 148 #[.slice a L.length c,.slice b M.length d] w fun e w'=>e=.returned (.bool (decide (L=M)))/\Below w.heap.size w w':=by
 have HC:=hid (zlv c d h g);have hl:=h.len;have hm:=g.len;generalize decide (L=M)=R at *;clear h g
 go_enter Tryz.func148,Tryz.ntmps148
 go_wp2_with fail
 refine HC.out.mono ?_
 rintro e w2 ⟨rfl,hw2⟩;go_wp2;go_ret;exact⟨rfl,hw2⟩
def zaB(l m:zac):Bool:=(l.kind==m.kind) && ((l.frm==m.frm) && ((l.out==m.out) && ((l.kh==m.kh) && ((l.kw==m.kw) && ((l.stride==m.stride) && ((l.pad==m.pad) && (decide (l.weights=m.weights) && decide (l.bias=m.bias))))))))
theorem zm.nil(w:World)(a:Option Addr):zm w a []:=⟨Yc,.inl rfl⟩
structure zeK (w:World) (p f:Nat):Prop where
 cell:w.cell? ⟨p,0,none⟩=some (.func (.func f) #[] #[])
 lt:p<w.heap.size
theorem zeK.below{w:World}{p f:Nat}(h:zeK w p f)(hb:Below w.heap.size w w'):zeK w' p f:=⟨(hb.cell h.lt).trans h.cell,Zb h.lt hb.size⟩
theorem ztk{w:World}{v u:Value}{l m:zac}(hv:zcV w v l)(hu:zcV w u m):
  Calls Tryz.prog 112 #[v,u] w fun e w'=>e=.returned (.bool (zaB l m))/\Below w.heap.size w w':=by
 obtain⟨a1,a2,c1,c2,rfl,r1,r2⟩:=hv.ex;obtain⟨b1,b2,d1,d2,rfl,s1,s2⟩:=hu.ex;have q1:=r1.len;have q2:=r2.len;have q3:=s1.len;have q4:=s2.len;obtain⟨R1,R2,S1,S2⟩:=hd4 r1 r2 s1 s2;clear hv hu r1 r2 s1 s2
 go_enter Tryz.func112,Tryz.ntmps112
 go_upto_region 1 with fail
 have hbA:=blA w (.cells #[.int .i64 l.kind,.int .i64 l.frm,.int .i64 l.out,.int .i64 l.kh,.int .i64 l.kw,.int .i64 l.stride,.int .i64 l.pad,.slice a1 l.weights.length c1,.slice a2 l.bias.length c2] 44);have hx:=b9l w l a1 c1 a2 c2 44;generalize hW:w.alloc (.cells #[.int .i64 l.kind,.int .i64 l.frm,.int .i64 l.out,.int .i64 l.kh,.int .i64 l.kw,.int .i64 l.stride,.int .i64 l.pad,.slice a1 l.weights.length c1,.slice a2 l.bias.length c2] 44)=W at *;have hsz:W.heap.size=w.heap.size+1:=by rw[<- hW];simp
 have hbB:=blA W (.cells #[.int .i64 m.kind,.int .i64 m.frm,.int .i64 m.out,.int .i64 m.kh,.int .i64 m.kw,.int .i64 m.stride,.int .i64 m.pad,.slice b1 m.weights.length d1,.slice b2 m.bias.length d2] 44);have hy:=b9l W m b1 d1 b2 d2 44;rw[hsz]at hy;generalize W.alloc (.cells #[.int .i64 m.kind,.int .i64 m.frm,.int .i64 m.out,.int .i64 m.kh,.int .i64 m.kw,.int .i64 m.stride,.int .i64 m.pad,.slice b1 m.weights.length d1,.slice b2 m.bias.length d2] 44)=V at *;obtain⟨HX,HY,HB⟩:=hd3 (hx.below hbB) hy (hbA.trans (hbB.mono hbA.size));clear hx hy hbA hbB hW hsz;obtain⟨x0,x1,x2,x3,x4,x5,x6,x7,x8,xlt⟩:=HX.out;obtain⟨y0,y1,y2,y3,y4,y5,y6,y7,y8,ylt⟩:=HY.out
 cases e1:(l.kind==m.kind)with
 | false=>
  have HR:Hid (zaB l m=false):=by unfold Hid zaB;rw[e1];rfl
  go_wp2;go_ret;exact Tp
 | true=>
  cases e2:(l.frm==m.frm)with
  | false=>
   have HR:Hid (zaB l m=false):=by unfold Hid zaB;rw[e1,e2];rfl
   go_wp2;go_ret;exact Tp
  | true=>
   cases e3:(l.out==m.out)with
   | false=>
    have HR:Hid (zaB l m=false):=by unfold Hid zaB;rw[e1,e2,e3];rfl
    go_wp2;go_ret;exact Tp
   | true=>
    cases e4:(l.kh==m.kh)with
    | false=>
     have HR:Hid (zaB l m=false):=by unfold Hid zaB;rw[e1,e2,e3,e4];rfl
     go_wp2;go_ret;exact Tp
    | true=>
     cases e5:(l.kw==m.kw)with
     | false=>
      have HR:Hid (zaB l m=false):=by unfold Hid zaB;rw[e1,e2,e3,e4,e5];rfl
      go_wp2;go_ret;exact Tp
     | true=>
      cases e6:(l.stride==m.stride)with
      | false=>
       have HR:Hid (zaB l m=false):=by unfold Hid zaB;rw[e1,e2,e3,e4,e5,e6];rfl
       go_wp2;go_ret;exact Tp
      | true=>
       cases e7:(l.pad==m.pad)with
       | false=>
        have HR:Hid (zaB l m=false):=KT;go_wp2;go_ret;exact Tp
       | true=>
        have HR0:Hid (zaB l m=(decide (l.weights=m.weights) && decide (l.bias=m.bias))):=KT;have HC:=hid (zsz c1 d1 (R1.out.below HB.out) (S1.out.below HB.out))
        cases e8:decide (l.weights=m.weights)with
        | false=>
         have HR:Hid (zaB l m=false):=by unfold Hid;rw[HR0.out,e8];rfl
         rw[e8]at HC;clear e8
         go_wp2_with fail
         refine HC.out.mono ?_
         rintro e w1 ⟨rfl,hb1⟩;have HB1:=htr HB hb1;clear hb1 x0 x1 x2 x3 x4 x5 x6 x7 x8 y0 y1 y2 y3 y4 y5 y6 y7 y8;go_wp2;go_ret;exact⟨zi HR.out.symm,HB1.out⟩
        | true=>
         have HR:Hid (zaB l m=decide (l.bias=m.bias)):=by unfold Hid;rw[HR0.out,e8];rfl
         rw[e8]at HC;clear e8
         go_wp2_with fail
         refine HC.out.mono ?_
         rintro e w1 ⟨rfl,hb1⟩;have HB1:=htr HB hb1;clear x0 x1 x2 x3 x4 x5 x6 x7 x8 y0 y1 y2 y3 y4 y5 y6 y7 y8;obtain⟨x0,x1,x2,x3,x4,x5,x6,x7,x8,xlt⟩:=HX.out.below hb1;obtain⟨y0,y1,y2,y3,y4,y5,y6,y7,y8,ylt⟩:=HY.out.below hb1;have HC2:=hid (zsz c2 d2 (R2.out.below HB1.out) (S2.out.below HB1.out));generalize decide (l.bias=m.bias)=R at *;clear hb1
         go_wp2_with fail
         refine HC2.out.mono ?_
         rintro e w2 ⟨rfl,hb2⟩;have HB2:=htr HB1 hb2;clear hb2 x0 x1 x2 x3 x4 x5 x6 x7 x8 y0 y1 y2 y3 y4 y5 y6 y7 y8;go_wp2;go_ret;exact U7
theorem zny{w:World}{l m:zac}(hv:zcV w v l)(hu:zcV w u m):
  Calls Tryz.prog 111 #[v,u] w fun e w'=>e=.returned (.bool (zaB l ⟨l.kind,m.frm,m.out,m.kh,m.kw,m.stride,m.pad,m.weights,m.bias⟩))/\Below w.heap.size w w':=by
 obtain⟨a1,a2,c1,c2,rfl,r1,r2⟩:=hv.ex;obtain⟨b1,b2,d1,d2,rfl,s1,s2⟩:=hu.ex;have q1:=r1.len;have q2:=r2.len;have q3:=s1.len;have q4:=s2.len;have hb:Below w.heap.size w ((w.alloc (.cells #[.int .i64 l.kind,.int .i64 l.frm,.int .i64 l.out,.int .i64 l.kh,.int .i64 l.kw,.int .i64 l.stride,.int .i64 l.pad,.slice a1 l.weights.length c1,.slice a2 l.bias.length c2] 44)).alloc (.cells #[.int .i64 l.kind,.int .i64 m.frm,.int .i64 m.out,.int .i64 m.kh,.int .i64 m.kw,.int .i64 m.stride,.int .i64 m.pad,.slice b1 m.weights.length d1,.slice b2 m.bias.length d2] 44)):=((Ze _ _).alloc (Za _) _).alloc Yc _;obtain⟨HB,HC⟩:=hd2 hb (ztk (w:=(w.alloc (.cells #[.int .i64 l.kind,.int .i64 l.frm,.int .i64 l.out,.int .i64 l.kh,.int .i64 l.kw,.int .i64 l.stride,.int .i64 l.pad,.slice a1 l.weights.length c1,.slice a2 l.bias.length c2] 44)).alloc (.cells #[.int .i64 l.kind,.int .i64 m.frm,.int .i64 m.out,.int .i64 m.kh,.int .i64 m.kw,.int .i64 m.stride,.int .i64 m.pad,.slice b1 m.weights.length d1,.slice b2 m.bias.length d2] 44)) (l:=l) (m:=⟨l.kind,m.frm,m.out,m.kh,m.kw,m.stride,m.pad,m.weights,m.bias⟩) ⟨a1,a2,c1,c2,rfl,r1.below hb,r2.below hb⟩ ⟨b1,b2,d1,d2,rfl,s1.below hb,s2.below hb⟩);clear hv hu r1 r2 s1 s2 hb
 go_enter Tryz.func111,Tryz.ntmps111
 go_wp2_with fail
 refine HC.out.mono ?_
 rintro e w1 ⟨rfl,hb1⟩;have HB1:=htr HB hb1;clear hb1 HC HB;go_wp2;go_ret;exact⟨rfl,HB1.out⟩
theorem zt1{w:World}{l:zac}(hv:zcV w v l):Calls Tryz.prog 110 #[v] w fun e w'=>e=.returned (.bool (zhx l))/\Below w.heap.size w w':=by
 obtain⟨a1,a2,c1,c2,rfl,r1,r2⟩:=hv.ex;have hb:=blA w (.cells #[.int .i64 l.kind,.int .i64 l.frm,.int .i64 l.out,.int .i64 l.kh,.int .i64 l.kw,.int .i64 l.stride,.int .i64 l.pad,.slice a1 l.weights.length c1,.slice a2 l.bias.length c2] 44);have HB:=hid hb;generalize hR:zhx l=R;unfold zhx at hR;generalize l.out=n at *;clear hv r1 r2 hb
 by_cases h1:1<=n
 ·by_cases h2:n<=16384
  ·rw[Zk h1,Zk h2]at hR;have HR:=hid hR;clear hR
   go_enter Tryz.func110,Tryz.ntmps110
   go_wp2;go_ret;exact Ed
  ·rw[Zk h1,Zj h2]at hR;have HR:=hid hR;clear hR
   go_enter Tryz.func110,Tryz.ntmps110
   go_wp2;go_ret;exact Ed
 ·rw[Zj h1]at hR;have HR:=hid hR;clear hR
  go_enter Tryz.func110,Tryz.ntmps110
  go_wp2;go_ret;exact Ed
theorem zn2{w:World}{v:Value}{l:zac}(hv:zcV w v l):Calls Tryz.prog 114 #[v] w fun e w'=>e=.returned (.bool (zdo l))/\Below w.heap.size w w':=by
 obtain⟨a1,a2,c1,c2,rfl,r1,r2⟩:=hv.ex;have hb:=blA w (.cells #[.int .i64 l.kind,.int .i64 l.frm,.int .i64 l.out,.int .i64 l.kh,.int .i64 l.kw,.int .i64 l.stride,.int .i64 l.pad,.slice a1 l.weights.length c1,.slice a2 l.bias.length c2] 44);have HB:=hid hb;generalize hR:zdo l=R;unfold zdo at hR;obtain⟨C1,C2,C3⟩:=hd3 (fun W=>zra l.kh W) (fun W=>zra l.kw W) (fun W=>zra l.stride W);clear hv r1 r2 hb
 cases e1:zc6 l.kh with
 | false=>
  rw[e1]at hR C1;have HR:=hid hR;clear hR e1
  go_enter Tryz.func114,Tryz.ntmps114
  go_wp2_with (first|(go_at_call 149;(with_reducible refine(C1.out _).mono ?_);rintro e w' ⟨rfl,rfl⟩))
  go_ret;exact Ed
 | true=>
  rw[e1]at hR C1
  cases e2:zc6 l.kw with
  | false=>
   rw[e2]at hR C2;have HR:=hid hR;clear hR e1 e2
   go_enter Tryz.func114,Tryz.ntmps114
   go_wp2_with fail
   refine(C1.out _).mono ?_
   rintro e w' ⟨rfl,rfl⟩
   go_wp2_with fail
   refine(C2.out _).mono ?_
   rintro e w' ⟨rfl,rfl⟩;go_wp2;go_ret;exact Ed
  | true=>
   rw[e2]at hR C2;generalize zc6 l.stride=z at *;have HR:=hid hR;clear hR e1 e2
   go_enter Tryz.func114,Tryz.ntmps114
   go_wp2_with fail
   refine(C1.out _).mono ?_
   rintro e w' ⟨rfl,rfl⟩
   go_wp2_with fail
   refine(C2.out _).mono ?_
   rintro e w' ⟨rfl,rfl⟩
   go_wp2_with fail
   refine(C3.out _).mono ?_
   rintro e w' ⟨rfl,rfl⟩;go_wp2;go_ret;exact Ed
theorem zkR{w:World}{l:zac}(hv:zcV w v l)(n:Int)(h1:1<=n)(h2:n<=1000000000):Calls Tryz.prog 117 #[v,.int .i64 n] w fun e w'=>e=.returned (.bool (zjJ l n))/\Below w.heap.size w w':=by
 obtain⟨a1,a2,c1,c2,rfl,r1,r2⟩:=hv.ex;have hb:=blA w (.cells #[.int .i64 l.kind,.int .i64 l.frm,.int .i64 l.out,.int .i64 l.kh,.int .i64 l.kw,.int .i64 l.stride,.int .i64 l.pad,.slice a1 l.weights.length c1,.slice a2 l.bias.length c2] 44);have HB:=hid hb;have q1:=r1.len;have q2:=r2.len;generalize hR:zjJ l n=R;unfold zjJ at hR;clear hv r1 r2 hb
 by_cases e1:(l.bias.length:Int)=l.out
 ·have t1:((l.bias.length:Int)==l.out)=true:=KE;rw[Zk e1]at hR;clear e1
  by_cases e2:0<l.weights.length
  ·by_cases e3:l.weights.length<=16384
   ·rw[Zk e2,Zk e3]at hR
    by_cases e4:(l.weights.length:Int)%n=0
    ·have t4:((l.weights.length:Int)%n==0)=true:=by rw[ZaS];exact e4
     rw[Zk e4]at hR;have HR:=hid hR;clear hR e4
     go_enter Tryz.func117,Tryz.ntmps117
     go_wp2;go_ret;exact Ed
    ·have t4:((l.weights.length:Int)%n==0)=false:=by rw[Zaf];exact e4
     rw[Zj e4]at hR;have HR:=hid hR;clear hR e4
     go_enter Tryz.func117,Tryz.ntmps117
     go_wp2;go_ret;exact Ed
   ·rw[Zk e2,Zj e3]at hR;have HR:=hid hR;clear hR
    go_enter Tryz.func117,Tryz.ntmps117
    go_wp2;go_ret;exact Ed
  ·rw[Zj e2]at hR;have HR:=hid hR;clear hR
   go_enter Tryz.func117,Tryz.ntmps117
   go_wp2;go_ret;exact Ed
 ·have t1:((l.bias.length:Int)==l.out)=false:=X0;rw[Zj e1]at hR;have HR:=hid hR;clear hR e1
  go_enter Tryz.func117,Tryz.ntmps117
  go_wp2;go_ret;exact Ed
theorem ztm{w:World}{l:zac}(hv:zcV w v l)(i:Int){p:Nat}(hpp:zeK w p 111):
  Calls Tryz.prog 115 #[v,.int .i64 i,.pointer (some ⟨p,0,none⟩)] w fun e w'=>e=.returned (.bool (zaB l ⟨l.kind,0,0,0,0,0,0,[],[]⟩))/\Below w.heap.size w w':=by
 obtain⟨a1,a2,c1,c2,rfl,r1,r2⟩:=hv.ex;have HV:=hid hv;have q1:=r1.len;have q2:=r2.len;obtain⟨R1,R2⟩:=hd2 r1 r2;generalize hRr:(zaB l ⟨l.kind,0,0,0,0,0,0,[],[]⟩)=RR;obtain⟨HRd,HPp⟩:=hd2 hRr hpp;clear hRr hv r1 r2 hpp
 go_enter Tryz.func115,Tryz.ntmps115
 go_upto_region 1 with fail
 have hb0:=blA w (zbG l a1 c1 a2 c2 44);have hx:=b9l w l a1 c1 a2 c2 44;generalize w.alloc (zbG l a1 c1 a2 c2 44)=W at *;obtain⟨HB,HX,HW0⟩:=hd3 hb0 hx (Ze W.heap.size W);clear hx hb0;obtain⟨x0,x1,x2,x3,x4,x5,x6,x7,x8,xlt⟩:=HX.out;obtain⟨pp,lp⟩:=HPp.out.below HB.out;have HR:Hid (zaB l ⟨l.kind,0,0,0,0,0,0,[],[]⟩=RR):=HRd.out;have HCo:=hid (zny (m:=⟨0,0,0,0,0,0,0,[],[]⟩) ((HV.out.below HB.out).below HW0.out) (u:=.agg #[.int .i64 0,.int .i64 0,.int .i64 0,.int .i64 0,.int .i64 0,.int .i64 0,.int .i64 0,.slice none 0 0,.slice none 0 0]) ⟨none,none,0,0,rfl,zm.nil _ _,zm.nil _ _⟩);generalize zaB l ⟨l.kind,0,0,0,0,0,0,[],[]⟩=R at *
 go_wp2_with fail
 refine HCo.out.mono ?_
 rintro e w1 ⟨rfl,hb1⟩;have HW1:=htr HW0 hb1;clear hb1 x0 x1 x2 x3 x4 x5 x6 x7 x8 pp lp;obtain⟨x0,x1,x2,x3,x4,x5,x6,x7,x8,xlt1⟩:=HX.out.below HW1.out;obtain⟨pp,lp⟩:=(HPp.out.below HB.out).below HW1.out;go_wp2;go_ret;exact TY
theorem ztv{w:World}{v:Value}{l:zac}(hv:zcV w v l)(i:Int){p:Nat}(hpp:zeK w p 111):
  Calls Tryz.prog 113 #[v,.int .i64 i,.pointer (some ⟨p,0,none⟩)] w fun e w'=>e=.returned (.bool (zdo l && zaB l ⟨l.kind,0,0,l.kh,l.kw,l.stride,0,[],[]⟩))/\Below w.heap.size w w':=by
 obtain⟨a1,a2,c1,c2,rfl,r1,r2⟩:=hv.ex;have HV:=hid hv;have q1:=r1.len;have q2:=r2.len;obtain⟨R1,R2⟩:=hd2 r1 r2;generalize hRr:(zdo l && zaB l ⟨l.kind,0,0,l.kh,l.kw,l.stride,0,[],[]⟩)=RR;obtain⟨HRd,HPp⟩:=hd2 hRr hpp;clear hRr hv r1 r2 hpp
 go_enter Tryz.func113,Tryz.ntmps113
 go_upto_region 1 with fail
 have hb0:=blA w (zbG l a1 c1 a2 c2 44);have hx:=b9l w l a1 c1 a2 c2 44;generalize w.alloc (zbG l a1 c1 a2 c2 44)=W at *;obtain⟨HB,HX,HW0⟩:=hd3 hb0 hx (Ze W.heap.size W);clear hx hb0;obtain⟨x0,x1,x2,x3,x4,x5,x6,x7,x8,xlt⟩:=HX.out;obtain⟨pp,lp⟩:=HPp.out.below HB.out;have HC:=hid (zn2 ((HV.out.below HB.out).below HW0.out))
 cases e1:zdo l with
 | false=>
  have HR:Hid (false=RR):=X4;rw[e1]at HC;clear e1
  go_wp2_with fail
  refine HC.out.mono ?_
  rintro e w1 ⟨rfl,hb1⟩;have HW1:=htr HW0 hb1;clear hb1 x0 x1 x2 x3 x4 x5 x6 x7 x8 pp lp;obtain⟨x0,x1,x2,x3,x4,x5,x6,x7,x8,xlt1⟩:=HX.out.below HW1.out;obtain⟨pp,lp⟩:=(HPp.out.below HB.out).below HW1.out;go_wp2;go_ret;exact TY
 | true=>
  have HR:Hid (zaB l ⟨l.kind,0,0,l.kh,l.kw,l.stride,0,[],[]⟩=RR):=X4;rw[e1]at HC;clear e1
  go_wp2_with fail
  refine HC.out.mono ?_
  rintro e w1 ⟨rfl,hb1⟩;have HW1:=htr HW0 hb1;clear hb1 x0 x1 x2 x3 x4 x5 x6 x7 x8 pp lp;obtain⟨x0,x1,x2,x3,x4,x5,x6,x7,x8,xlt1⟩:=HX.out.below HW1.out;obtain⟨pp,lp⟩:=(HPp.out.below HB.out).below HW1.out;have HCo:=hid (zny (m:=⟨0,0,0,l.kh,l.kw,l.stride,0,[],[]⟩) ((HV.out.below HB.out).below HW1.out) (u:=.agg #[.int .i64 0,.int .i64 0,.int .i64 0,.int .i64 l.kh,.int .i64 l.kw,.int .i64 l.stride,.int .i64 0,.slice none 0 0,.slice none 0 0]) ⟨none,none,0,0,rfl,zm.nil _ _,zm.nil _ _⟩);generalize zaB l ⟨l.kind,0,0,l.kh,l.kw,l.stride,0,[],[]⟩=R at *
  go_wp2_with fail
  refine HCo.out.mono ?_
  rintro e w2 ⟨rfl,hb2⟩;have HW2:=htr HW1 hb2;clear hb2 x0 x1 x2 x3 x4 x5 x6 x7 x8 pp lp;obtain⟨x0,x1,x2,x3,x4,x5,x6,x7,x8,xlt2⟩:=HX.out.below HW2.out;obtain⟨pp,lp⟩:=(HPp.out.below HB.out).below HW2.out;go_wp2;go_ret;exact TE
theorem zug{w:World}{l:zac}(hv:zcV w v l)(i:Int){p:Nat}(hpp:zeK w p 111):
  Calls Tryz.prog 119 #[v,.int .i64 i,.pointer (some ⟨p,0,none⟩)] w fun e w'=>e=.returned (.bool (decide (-1<=l.frm) && (decide (l.frm<i) && zaB l ⟨l.kind,l.frm,0,0,0,0,0,[],[]⟩)))/\Below w.heap.size w w':=by
 obtain⟨a1,a2,c1,c2,rfl,r1,r2⟩:=hv.ex;have HV:=hid hv;have q1:=r1.len;have q2:=r2.len;obtain⟨R1,R2⟩:=hd2 r1 r2;generalize hRr:(decide (-1<=l.frm) && (decide (l.frm<i) && zaB l ⟨l.kind,l.frm,0,0,0,0,0,[],[]⟩))=RR;obtain⟨HRd,HPp⟩:=hd2 hRr hpp;clear hRr hv r1 r2 hpp
 go_enter Tryz.func119,Tryz.ntmps119
 go_upto_region 1 with fail
 have hb0:=blA w (zbG l a1 c1 a2 c2 44);have hx:=b9l w l a1 c1 a2 c2 44;generalize w.alloc (zbG l a1 c1 a2 c2 44)=W at *;obtain⟨HB,HX,HW0⟩:=hd3 hb0 hx (Ze W.heap.size W);clear hx hb0;obtain⟨x0,x1,x2,x3,x4,x5,x6,x7,x8,xlt⟩:=HX.out;obtain⟨pp,lp⟩:=HPp.out.below HB.out
 by_cases e1: -1<=l.frm
 ·by_cases e2:l.frm<i
  ·have HR:Hid (zaB l ⟨l.kind,l.frm,0,0,0,0,0,[],[]⟩=RR):=by unfold Hid;rw[<- HRd.out,Zk e1,Zk e2];rfl
   have HCo:=hid (zny (m:=⟨0,l.frm,0,0,0,0,0,[],[]⟩) ((HV.out.below HB.out).below HW0.out) (u:=.agg #[.int .i64 0,.int .i64 l.frm,.int .i64 0,.int .i64 0,.int .i64 0,.int .i64 0,.int .i64 0,.slice none 0 0,.slice none 0 0]) ⟨none,none,0,0,rfl,zm.nil _ _,zm.nil _ _⟩);generalize zaB l ⟨l.kind,l.frm,0,0,0,0,0,[],[]⟩=R at *
   go_wp2_with fail
   refine HCo.out.mono ?_
   rintro e w1 ⟨rfl,hb1⟩;have HW1:=htr HW0 hb1;clear hb1 x0 x1 x2 x3 x4 x5 x6 x7 x8 pp lp;obtain⟨x0,x1,x2,x3,x4,x5,x6,x7,x8,xlt1⟩:=HX.out.below HW1.out;obtain⟨pp,lp⟩:=(HPp.out.below HB.out).below HW1.out;go_wp2;go_ret;exact TY
  ·have HR:Hid (false=RR):=by unfold Hid;rw[<- HRd.out,Zk e1,Zj e2];rfl
   go_wp2;go_ret;exact⟨zi HR.out,HB.out.trans (HW0.out.mono HB.out.size)⟩
 ·have HR:Hid (false=RR):=KF;go_wp2;go_ret;exact⟨zi HR.out,HB.out.trans (HW0.out.mono HB.out.size)⟩
theorem zsO{w:World}{v:Value}{l:zac}(hv:zcV w v l)(i:Int){po pn:Nat}(hppo:zeK w po 110)(hppn:zeK w pn 111):
  Calls Tryz.prog 116 #[v,.int .i64 i,.pointer (some ⟨po,0,none⟩),.pointer (some ⟨pn,0,none⟩)] w fun e w'=>e=.returned (.bool (zhx l && (zjJ l l.out && zaB l ⟨l.kind,0,l.out,0,0,0,0,l.weights,l.bias⟩)))/\Below w.heap.size w w':=by
 obtain⟨a1,a2,c1,c2,rfl,r1,r2⟩:=hv.ex;have HV:=hid hv;have q1:=r1.len;have q2:=r2.len;obtain⟨R1,R2⟩:=hd2 r1 r2;generalize hRr:(zhx l && (zjJ l l.out && zaB l ⟨l.kind,0,l.out,0,0,0,0,l.weights,l.bias⟩))=RR;obtain⟨HRd,HPpo,HPpn⟩:=hd3 hRr hppo hppn;clear hRr hv r1 r2 hppo hppn
 go_enter Tryz.func116,Tryz.ntmps116
 go_upto_region 1 with fail
 have hb0:=blA w (zbG l a1 c1 a2 c2 44);have hx:=b9l w l a1 c1 a2 c2 44;generalize w.alloc (zbG l a1 c1 a2 c2 44)=W at *;obtain⟨HB,HX,HW0⟩:=hd3 hb0 hx (Ze W.heap.size W);clear hx hb0;obtain⟨x0,x1,x2,x3,x4,x5,x6,x7,x8,xlt⟩:=HX.out;obtain⟨ppo,lpo⟩:=HPpo.out.below HB.out;obtain⟨ppn,lpn⟩:=HPpn.out.below HB.out;have HC:=hid (zt1 ((HV.out.below HB.out).below HW0.out))
 cases e1:zhx l with
 | false=>
  have HR:Hid (false=RR):=X4;rw[e1]at HC;clear e1
  go_wp2_with fail
  refine HC.out.mono ?_
  rintro e w1 ⟨rfl,hb1⟩;have HW1:=htr HW0 hb1;clear hb1 x0 x1 x2 x3 x4 x5 x6 x7 x8 ppo lpo ppn lpn;obtain⟨x0,x1,x2,x3,x4,x5,x6,x7,x8,xlt1⟩:=HX.out.below HW1.out;obtain⟨ppo,lpo⟩:=(HPpo.out.below HB.out).below HW1.out;obtain⟨ppn,lpn⟩:=(HPpn.out.below HB.out).below HW1.out;go_wp2;go_ret;exact TY
 | true=>
  rw[e1]at HC;have HE1:=hid e1;obtain⟨o1,o2⟩:1<=l.out/\l.out<=16384:=by unfold zhx at e1;simpa using e1
  clear e1
  go_wp2_with fail
  refine HC.out.mono ?_
  rintro e w1 ⟨rfl,hb1⟩;have HW1:=htr HW0 hb1;clear hb1 x0 x1 x2 x3 x4 x5 x6 x7 x8 ppo lpo ppn lpn;obtain⟨x0,x1,x2,x3,x4,x5,x6,x7,x8,xlt1⟩:=HX.out.below HW1.out;obtain⟨ppo,lpo⟩:=(HPpo.out.below HB.out).below HW1.out;obtain⟨ppn,lpn⟩:=(HPpn.out.below HB.out).below HW1.out;have HC2:=hid (zkR ((HV.out.below HB.out).below HW1.out) l.out o1 Ya)
  cases e2:zjJ l l.out with
  | false=>
   have HR:Hid (false=RR):=XI;rw[e2]at HC2;clear e2
   go_wp2_with fail
   refine HC2.out.mono ?_
   rintro e w2 ⟨rfl,hb2⟩;have HW2:=htr HW1 hb2;clear hb2 x0 x1 x2 x3 x4 x5 x6 x7 x8 ppo lpo ppn lpn;obtain⟨x0,x1,x2,x3,x4,x5,x6,x7,x8,xlt2⟩:=HX.out.below HW2.out;obtain⟨ppo,lpo⟩:=(HPpo.out.below HB.out).below HW2.out;obtain⟨ppn,lpn⟩:=(HPpn.out.below HB.out).below HW2.out;go_wp2;go_ret;exact TE
  | true=>
   have HR:Hid (zaB l ⟨l.kind,0,l.out,0,0,0,0,l.weights,l.bias⟩=RR):=XI;rw[e2]at HC2;clear e2
   go_wp2_with fail
   refine HC2.out.mono ?_
   rintro e w2 ⟨rfl,hb2⟩;have HW2:=htr HW1 hb2;clear hb2 x0 x1 x2 x3 x4 x5 x6 x7 x8 ppo lpo ppn lpn;obtain⟨x0,x1,x2,x3,x4,x5,x6,x7,x8,xlt2⟩:=HX.out.below HW2.out;obtain⟨ppo,lpo⟩:=(HPpo.out.below HB.out).below HW2.out;obtain⟨ppn,lpn⟩:=(HPpn.out.below HB.out).below HW2.out;have HCo:=hid (zny (m:=⟨0,0,l.out,0,0,0,0,l.weights,l.bias⟩) ((HV.out.below HB.out).below HW2.out) (u:=.agg #[.int .i64 0,.int .i64 0,.int .i64 l.out,.int .i64 0,.int .i64 0,.int .i64 0,.int .i64 0,.slice a1 l.weights.length c1,.slice a2 l.bias.length c2]) ⟨a1,a2,c1,c2,rfl,(R1.out.below HB.out).below HW2.out,(R2.out.below HB.out).below HW2.out⟩);generalize zaB l ⟨l.kind,0,l.out,0,0,0,0,l.weights,l.bias⟩=R at *
   go_wp2_with fail
   refine HCo.out.mono ?_
   rintro e w3 ⟨rfl,hb3⟩;have HW3:=htr HW2 hb3;clear hb3 x0 x1 x2 x3 x4 x5 x6 x7 x8 ppo lpo ppn lpn;obtain⟨x0,x1,x2,x3,x4,x5,x6,x7,x8,xlt3⟩:=HX.out.below HW3.out;obtain⟨ppo,lpo⟩:=(HPpo.out.below HB.out).below HW3.out;obtain⟨ppn,lpn⟩:=(HPpn.out.below HB.out).below HW3.out;go_wp2;go_ret;exact⟨zi HR.out,HB.out.trans (HW3.out.mono HB.out.size)⟩
theorem znQ{a b c:Int}(a1:1<=a)(a2:a<=16384)(b1:1<=b)(b2:b<=64)(c1:1<=c)(c2:c<=64):(1<=a*b/\a*b<=1048576)/\1<=a*b*c/\a*b*c<=67108864:=by
 have h1:1*1<=a*b:=ZaN a1 b1 Ya Ya;have h2:a*b<=16384*64:=ZaN a2 b2 Ya Ya;have h3:1*1<=a*b*c:=ZaN Ya c1 Ya Ya;have h4:a*b*c<=1048576*64:=ZaN Ya c2 Ya Ya;omega
theorem ztU{w:World}{v:Value}{l:zac}(hv:zcV w v l)(i:Int){po pn:Nat}(hppo:zeK w po 110)(hppn:zeK w pn 111):
  Calls Tryz.prog 118 #[v,.int .i64 i,.pointer (some ⟨po,0,none⟩),.pointer (some ⟨pn,0,none⟩)] w fun e w'=>e=.returned (.bool (zhx l && (zdo l && (decide (0<=l.pad) && (decide (l.pad<l.kh) && (decide (l.pad<l.kw) && (zjJ l (l.out*l.kh*l.kw) && zaB l ⟨l.kind,0,l.out,l.kh,l.kw,l.stride,l.pad,l.weights,l.bias⟩)))))))/\Below w.heap.size w w':=by
 obtain⟨a1,a2,c1,c2,rfl,r1,r2⟩:=hv.ex;have HV:=hid hv;have q1:=r1.len;have q2:=r2.len;obtain⟨R1,R2⟩:=hd2 r1 r2;generalize hRr:(zhx l && (zdo l && (decide (0<=l.pad) && (decide (l.pad<l.kh) && (decide (l.pad<l.kw) && (zjJ l (l.out*l.kh*l.kw) && zaB l ⟨l.kind,0,l.out,l.kh,l.kw,l.stride,l.pad,l.weights,l.bias⟩))))))=RR;obtain⟨HRd,HPpo,HPpn⟩:=hd3 hRr hppo hppn;clear hRr hv r1 r2 hppo hppn
 go_enter Tryz.func118,Tryz.ntmps118
 go_upto_region 1 with fail
 have hb0:=blA w (zbG l a1 c1 a2 c2 44);have hx:=b9l w l a1 c1 a2 c2 44;generalize w.alloc (zbG l a1 c1 a2 c2 44)=W at *;obtain⟨HB,HX,HW0⟩:=hd3 hb0 hx (Ze W.heap.size W);clear hx hb0;obtain⟨x0,x1,x2,x3,x4,x5,x6,x7,x8,xlt⟩:=HX.out;obtain⟨ppo,lpo⟩:=HPpo.out.below HB.out;obtain⟨ppn,lpn⟩:=HPpn.out.below HB.out;have HC:=hid (zt1 ((HV.out.below HB.out).below HW0.out))
 cases e1:zhx l with
 | false=>
  have HR:Hid (false=RR):=X4;rw[e1]at HC;clear e1
  go_wp2_with fail
  refine HC.out.mono ?_
  rintro e w1 ⟨rfl,hb1⟩;have HW1:=htr HW0 hb1;clear hb1 x0 x1 x2 x3 x4 x5 x6 x7 x8 ppo lpo ppn lpn;obtain⟨x0,x1,x2,x3,x4,x5,x6,x7,x8,xlt1⟩:=HX.out.below HW1.out;obtain⟨ppo,lpo⟩:=(HPpo.out.below HB.out).below HW1.out;obtain⟨ppn,lpn⟩:=(HPpn.out.below HB.out).below HW1.out;go_wp2;go_ret;exact TY
 | true=>
  rw[e1]at HC;have HE1:=hid e1;obtain⟨o1,o2⟩:1<=l.out/\l.out<=16384:=by unfold zhx at e1;simpa using e1
  clear e1
  go_wp2_with fail
  refine HC.out.mono ?_
  rintro e w1 ⟨rfl,hb1⟩;have HW1:=htr HW0 hb1;clear hb1 x0 x1 x2 x3 x4 x5 x6 x7 x8 ppo lpo ppn lpn;obtain⟨x0,x1,x2,x3,x4,x5,x6,x7,x8,xlt1⟩:=HX.out.below HW1.out;obtain⟨ppo,lpo⟩:=(HPpo.out.below HB.out).below HW1.out;obtain⟨ppn,lpn⟩:=(HPpn.out.below HB.out).below HW1.out;have HC2:=hid (zn2 ((HV.out.below HB.out).below HW1.out))
  cases e2:zdo l with
  | false=>
   have HR:Hid (false=RR):=XI;rw[e2]at HC2;clear e2
   go_wp2_with fail
   refine HC2.out.mono ?_
   rintro e w2 ⟨rfl,hb2⟩;have HW2:=htr HW1 hb2;clear hb2 x0 x1 x2 x3 x4 x5 x6 x7 x8 ppo lpo ppn lpn;obtain⟨x0,x1,x2,x3,x4,x5,x6,x7,x8,xlt2⟩:=HX.out.below HW2.out;obtain⟨ppo,lpo⟩:=(HPpo.out.below HB.out).below HW2.out;obtain⟨ppn,lpn⟩:=(HPpn.out.below HB.out).below HW2.out;go_wp2;go_ret;exact TE
  | true=>
   rw[e2]at HC2;have HE2:=hid e2;obtain⟨⟨k1,k2⟩,⟨k3,k4⟩,_⟩:(1<=l.kh/\l.kh<=64)/\(1<=l.kw/\l.kw<=64)/\(1<=l.stride/\l.stride<=64):=by unfold zdo zc6 at e2;simpa using e2
   clear e2;obtain⟨⟨m1,m2⟩,m3,m4⟩:=znQ o1 o2 k1 k2 k3 k4
   go_wp2_with fail
   refine HC2.out.mono ?_
   rintro e w2 ⟨rfl,hb2⟩;have HW2:=htr HW1 hb2;clear hb2 x0 x1 x2 x3 x4 x5 x6 x7 x8 ppo lpo ppn lpn;obtain⟨x0,x1,x2,x3,x4,x5,x6,x7,x8,xlt2⟩:=HX.out.below HW2.out;obtain⟨ppo,lpo⟩:=(HPpo.out.below HB.out).below HW2.out;obtain⟨ppn,lpn⟩:=(HPpn.out.below HB.out).below HW2.out
   by_cases g1:0<=l.pad
   ·by_cases g2:l.pad<l.kh
    ·by_cases g3:l.pad<l.kw
     ·have HC3:=hid (zkR ((HV.out.below HB.out).below HW2.out) (l.out*l.kh*l.kw) m3 Ya)
      cases e3:zjJ l (l.out*l.kh*l.kw)with
      | false=>
       have HR:Hid (false=RR):=YE;rw[e3]at HC3;clear e3
       go_wp2_with fail
       refine HC3.out.mono ?_
       rintro e w3 ⟨rfl,hb3⟩;have HW3:=htr HW2 hb3;clear hb3 x0 x1 x2 x3 x4 x5 x6 x7 x8 ppo lpo ppn lpn;obtain⟨x0,x1,x2,x3,x4,x5,x6,x7,x8,xlt3⟩:=HX.out.below HW3.out;obtain⟨ppo,lpo⟩:=(HPpo.out.below HB.out).below HW3.out;obtain⟨ppn,lpn⟩:=(HPpn.out.below HB.out).below HW3.out;go_wp2;go_ret;exact⟨zi HR.out,HB.out.trans (HW3.out.mono HB.out.size)⟩
      | true=>
       have HR:Hid (zaB l ⟨l.kind,0,l.out,l.kh,l.kw,l.stride,l.pad,l.weights,l.bias⟩=RR):=YE;rw[e3]at HC3;clear e3
       go_wp2_with fail
       refine HC3.out.mono ?_
       rintro e w3 ⟨rfl,hb3⟩;have HW3:=htr HW2 hb3;clear hb3 x0 x1 x2 x3 x4 x5 x6 x7 x8 ppo lpo ppn lpn;obtain⟨x0,x1,x2,x3,x4,x5,x6,x7,x8,xlt3⟩:=HX.out.below HW3.out;obtain⟨ppo,lpo⟩:=(HPpo.out.below HB.out).below HW3.out;obtain⟨ppn,lpn⟩:=(HPpn.out.below HB.out).below HW3.out;have HCo:=hid (zny (m:=⟨0,0,l.out,l.kh,l.kw,l.stride,l.pad,l.weights,l.bias⟩) ((HV.out.below HB.out).below HW3.out) (u:=.agg #[.int .i64 0,.int .i64 0,.int .i64 l.out,.int .i64 l.kh,.int .i64 l.kw,.int .i64 l.stride,.int .i64 l.pad,.slice a1 l.weights.length c1,.slice a2 l.bias.length c2]) ⟨a1,a2,c1,c2,rfl,(R1.out.below HB.out).below HW3.out,(R2.out.below HB.out).below HW3.out⟩);generalize zaB l ⟨l.kind,0,l.out,l.kh,l.kw,l.stride,l.pad,l.weights,l.bias⟩=R at *
       go_wp2_with fail
       refine HCo.out.mono ?_
       rintro e w4 ⟨rfl,hb4⟩;have HW4:=htr HW3 hb4;clear hb4 x0 x1 x2 x3 x4 x5 x6 x7 x8 ppo lpo ppn lpn;obtain⟨x0,x1,x2,x3,x4,x5,x6,x7,x8,xlt4⟩:=HX.out.below HW4.out;obtain⟨ppo,lpo⟩:=(HPpo.out.below HB.out).below HW4.out;obtain⟨ppn,lpn⟩:=(HPpn.out.below HB.out).below HW4.out;go_wp2;go_ret;exact⟨zi HR.out,HB.out.trans (HW4.out.mono HB.out.size)⟩
     ·have HR:Hid (false=RR):=by unfold Hid;rw[<- HRd.out,HE1.out,HE2.out,Zk g1,Zk g2,Zj g3];rfl
      go_wp2;go_ret;exact TE
    ·have HR:Hid (false=RR):=by unfold Hid;rw[<- HRd.out,HE1.out,HE2.out,Zk g1,Zj g2];rfl
     go_wp2;go_ret;exact TE
   ·have HR:Hid (false=RR):=by unfold Hid;rw[<- HRd.out,HE1.out,HE2.out,Zj g1];rfl
    go_wp2;go_ret;exact TE
theorem ztI(l:zac)(i:Int)(h:l.kind=1):(zhx l && (zjJ l l.out && zaB l ⟨l.kind,0,l.out,0,0,0,0,l.weights,l.bias⟩))=zcT l i:=by
 unfold zcT zaB;rw[Zm h,ZZ];exact IK
theorem ztT(l:zac)(i:Int)(h:l.kind=2):(zhx l && (zdo l && (decide (0<=l.pad) && (decide (l.pad<l.kh) && (decide (l.pad<l.kw) && (zjJ l (l.out*l.kh*l.kw) && zaB l ⟨l.kind,0,l.out,l.kh,l.kw,l.stride,l.pad,l.weights,l.bias⟩))))))=zcT l i:=by
 unfold zcT zaB;rw[Zg Ya,Zm h,ZZ];exact IK
theorem ztt(l:zac)(i:Int)(h:l.kind=3∨l.kind=4):(zdo l && zaB l ⟨l.kind,0,0,l.kh,l.kw,l.stride,0,[],[]⟩)=zcT l i:=by
 unfold zcT zaB zia;rw[Zg Ya,Zg Ya,Zm h,ZZ];simp only[Zu,ZaS,ZC,Z6,Z0]
 constructor
 ·rintro⟨k0,k1,k2,k3,k4,k5⟩;exact⟨k0,⟨k1,k2,k3⟩,k4,k5⟩
 ·rintro⟨k0,⟨k1,k2,k3⟩,k4,k5⟩;exact⟨k0,k1,k2,k3,k4,k5⟩
theorem ztV(l:zac)(i:Int)(h:l.kind=5∨l.kind=6):(zaB l ⟨l.kind,0,0,0,0,0,0,[],[]⟩)=zcT l i:=by
 unfold zcT zaB zia;rw[Zg Ya,Zg Ya,Zg Ya,Zm h,ZZ];simp only[Zu,ZaS,ZC,Z6,Z0]
 constructor
 ·rintro⟨k1,k2,k3,k4,k5,k6,k7,k8⟩;exact⟨⟨k1,k2,k3,k4,k5,k6⟩,k7,k8⟩
 ·rintro⟨⟨k1,k2,k3,k4,k5,k6⟩,k7,k8⟩;exact⟨k1,k2,k3,k4,k5,k6,k7,k8⟩
theorem ztb(l:zac)(i:Int)(h:l.kind=7):(decide (-1<=l.frm) && (decide (l.frm<i) && zaB l ⟨l.kind,l.frm,0,0,0,0,0,[],[]⟩))=zcT l i:=by
 unfold zcT zaB zia;rw[Zg Ya,Zg Ya,Zg Ya,Zg Ya,Zm h,ZZ];simp only[Zu,ZaS,ZC,Z6,Z0]
 constructor
 ·rintro⟨k1,k2,k3,k4,k5,k6,k7,k8,k9⟩;exact⟨k1,k2,⟨k3,k4,k5,k6,k7⟩,k8,k9⟩
 ·rintro⟨k1,k2,⟨k3,k4,k5,k6,k7⟩,k8,k9⟩;exact⟨k1,k2,k3,k4,k5,k6,k7,k8,k9⟩
end Go.Proofs.YtfgmmghmmfmdgaaGreat
namespace Go.Proofs.YtfgmmghmmfmdgaaGreat
open Go.Lib (hid)
variable {d k m a b:Nat} {z:Int} {q p:Rat} {x:zaf}
def zT(x:zaf):Rat:=mkRat (sgn x.neg (zo x.num)) (zr x.den)
def zc(q:Rat):zaf:=⟨decide (q.num<0),za q.num.natAbs,if q.den=1 then[]else za q.den⟩
theorem zbD(neg:Bool)(n:Nat):(sgn neg n).natAbs=n:=by cases neg<;>simp[sgn]
theorem zb4(neg:Bool)(n:Nat)(hd:0<d):zbw neg n d=zc (mkRat (sgn neg n) d):=by
 have hg:0<Nat.gcd n d:=Nat.gcd_pos_of_pos_right _ hd;obtain⟨k,hk⟩:=Nat.gcd_dvd_left n d;rw[Rat.mkRat_def,dif_neg Ya,Rat.normalize_eq];unfold zbw zc;simp only[zbD];have e:sgn neg n/((Nat.gcd n d:Nat):Int)=sgn neg (n/Nat.gcd n d):=by
  generalize Nat.gcd n d=g at *;subst hk;rw[Nat.mul_div_cancel_left _ hg];cases neg
  ·simp only[sgn];simp;rw[Int.mul_ediv_cancel_left _ Ya]
  ·simp only[sgn];simp;rw[<- Int.mul_neg,Int.mul_ediv_cancel_left _ Ya]
 rw[e,zbD]
 congr 1
 have h0:n=0 ↔ n/Nat.gcd n d=0:=by
  constructor
  ·rintro rfl;simp
  ·intro h;generalize Nat.gcd n d=g at *;subst hk;rw[Nat.mul_div_cancel_left _ hg]at h;rw[h,Nat.mul_zero]
 generalize n/Nat.gcd n d=q at *
 by_cases hn:n=0
 ·rw[h0.1 hn];cases neg<;>simp[sgn,hn]
 ·have hq:q≠0:=fun h=>hn (h0.2 h)
  cases neg
  ·simp[sgn]
  ·simp[sgn,hn];omega
theorem za0(x:zaf):zaF x=zc (zT x):=zb4 _ _ (zU _)
theorem zj7(q:Rat):zr (zc q).den=q.den:=by
 unfold zc zr
 dsimp only
 have:=q.den_nz
 by_cases h:q.den=1
 ·rw[Zm h,zcy,Zm rfl,h]
 ·rw[Zg h,zg,Zg this]
theorem zoZ(q:Rat):sgn (zc q).neg (zo (zc q).num)=q.num:=by
 unfold zc sgn
 dsimp only
 rw[zg]
 by_cases h:q.num<0
 ·rw[Zk h];simp;omega
 ·rw[Zj h];simp;omega
theorem zH(q:Rat):zT (zc q)=q:=by
 unfold zT;rw[zj7,zoZ,Rat.mkRat_self]
theorem znV(a b:Bool)(n m:Nat):sgn (a != b) (n*m)=sgn a n*sgn b m:=by
 cases a<;>cases b<;>simp[sgn,Int.neg_mul,Int.mul_neg]
theorem zuo(a b:Bool)(n m d e:Nat):mkRat (sgn (a != b) (n*m)) (d*e)=mkRat (sgn a n) d*mkRat (sgn b m) e:=by
 rw[znV,Rat.mkRat_mul_mkRat]
theorem zt0(a b:Bool)(n m:Nat){e:Nat}(hd:0<d)(he:0<e):mkRat (sgn a (n*e)+sgn b (m*d)) (d*e)=mkRat (sgn a n) d+mkRat (sgn b m) e:=by
 rw[Rat.mkRat_add_mkRat _ _ Ya Ya]
 congr 1
 cases a<;>cases b<;>simp[sgn,Int.neg_mul]
theorem zlK(b:Bool)(m e:Nat):(mkRat (sgn b m) e)⁻¹=mkRat (sgn b e) m:=by
 rw[Rat.mkRat_eq_div,Rat.mkRat_eq_div,Rat.div_def,Rat.div_def,Rat.inv_mul_rev,Rat.inv_inv];cases b
 ·rfl
 ·have h:(-((m:Int):Rat))⁻¹= -((m:Int):Rat)⁻¹:=by grind
  simp only[sgn,if_true,Rat.intCast_neg,h,Rat.mul_neg,Rat.neg_mul];rfl
theorem zt3(a b:Bool)(n m d e:Nat):mkRat (sgn (a != b) (n*e)) (d*m)=mkRat (sgn a n) d/mkRat (sgn b m) e:=by
 rw[Rat.div_def,zlK b m e,znV,Rat.mkRat_mul_mkRat]
theorem zrI(a:Bool)(n:Nat):sgn (!a) n= -sgn a n:=by cases a<;>simp[sgn]
theorem zuu(a:Bool)(n d:Nat):mkRat (sgn (!a) n) d= -mkRat (sgn a n) d:=by rw[zrI,Rat.neg_mkRat]
def zdS(q:Rat):Int:=if q<0 then -1 else if 0<q then 1 else 0
theorem ziE(hd:0<d):0<mkRat z d ↔ 0<z:=by
 rw[Rat.mkRat_eq_div];have h:(0:Rat)<(d:Rat):=by exact_mod_cast hd
 rw[Rat.lt_div_iff h,Rat.zero_mul];exact Rat.intCast_lt_intCast (a:=0)
theorem ziA(hd:0<d):mkRat z d<0 ↔ z<0:=by
 rw[Rat.mkRat_eq_div];have h:(0:Rat)<(d:Rat):=by exact_mod_cast hd
 rw[Rat.div_lt_iff h,Rat.zero_mul];exact Rat.intCast_lt_intCast (b:=0)
theorem zks(x:zaf):zdv x.neg (zo x.num)=zdS (zT x):=by
 unfold zdS zT;simp only[ziA (zU _),ziE (zU _)];unfold zdv sgn;cases x.neg<;>by_cases h:zo x.num=0<;>simp[h]<;>omega
def zqd(p q:Rat):Int:=if p<q then -1 else if q<p then 1 else 0
theorem zmS(p q:Rat):zdS (p-q)=zqd p q:=by
 unfold zdS zqd;have h1:p-q<0 ↔ p<q:=by grind
 have h2:0<p-q ↔ q<p:=by grind
 simp only[h1,h2]
structure zD (x:zaf) (k:Nat):Prop where
 num:x.num.length<=k
 den:x.den.length<=k
structure QLe (q:Rat) (k:Nat):Prop where
 num:q.num.natAbs<4294967296^k
 den:q.den<4294967296^k
theorem QLe.mono(h:QLe q k)(hm:k<=m):QLe q m:=
 ⟨Zb h.num (Zt Ya hm),Zb h.den (Zt Ya hm)⟩
theorem zD.mono(h:zD x k)(hm:k<=m):zD x m:=⟨Zi h.num hm,Zi h.den hm⟩
theorem QLe.mk'(h1:z.natAbs<4294967296^k)(h2:d<4294967296^k)(hd:0<d):QLe (mkRat z d) k:=by
 rw[Rat.mkRat_def,dif_neg Ya,Rat.normalize_eq]
 refine⟨ZaB ?_ h1,ZaB (Za1 _ _) h2⟩
 rw[Int.natAbs_ediv_of_dvd (Int.ofNat_dvd_left.2 (Nat.gcd_dvd_left _ _))];exact Za1 _ _
theorem QLe.ratL(h:QLe q k):zD (zc q) k:=by
 refine⟨zaq h.num,?_⟩
 show(if q.den=1 then[]else za q.den).length<=k
 split
 ·simp
 ·exact zaq h.den
theorem znc{d:List Nat}(hl:Lim d)(h:d.length<=k):zr d<4294967296^(k+1):=by
 have h1:=Zb (zct hl) (Zt (show 0<4294967296 from Ya) (show d.length<=k+1 from Ya));have h2:4294967296^1<=4294967296^(k+1):=Zt Ya Ya;unfold zr
 split
 ·omega
 ·exact h1
theorem QLe.ratOf(hx:x.Lim)(h:zD x k):QLe (zT x) (k+1):=by
 refine QLe.mk' ?_ (znc hx.2 h.den) (zU _)
 rw[zbD];exact Zb (zct hx.1) (Zt Ya (Nat.le_succ_of_le h.num))
theorem QLe.neg(h:QLe q k):QLe (-q) k:=⟨by rw[Rat.neg_num,Int.natAbs_neg];exact h.num,by rw[Rat.neg_den];exact h.den⟩
theorem QLe.add(hp:QLe p a)(hq:QLe q b):QLe (p+q) (a+b+1):=by
 rw[<- Rat.mkRat_self p,<- Rat.mkRat_self q,Rat.mkRat_add_mkRat _ _ p.den_nz q.den_nz];have h1:(p.num*(q.den:Int)).natAbs<4294967296^a*4294967296^b:=by
  rw[Int.natAbs_mul,Int.natAbs_natCast];exact Nat.mul_lt_mul'' hp.num hq.den
 have h2:(q.num*(p.den:Int)).natAbs<4294967296^a*4294967296^b:=by
  rw[Int.natAbs_mul,Int.natAbs_natCast,ZD (4294967296^a)];exact Nat.mul_lt_mul'' hq.num hp.den
 refine QLe.mk' ?_ ?_ (Zak p.den_pos q.den_pos)
 ·have h3:=Int.natAbs_add_le (p.num*(q.den:Int)) (q.num*(p.den:Int));rw[Zas,Z9];omega
 ·have h3:=Nat.mul_lt_mul'' hp.den hq.den;rw[Zas,Z9];omega
theorem QLe.sub(hp:QLe p a)(hq:QLe q b):QLe (p-q) (a+b+1):=by
 rw[Rat.sub_eq_add_neg];exact hp.add hq.neg
end Go.Proofs.YtfgmmghmmfmdgaaGreat
namespace Go.Proofs.YtfgmmghmmfmdgaaGreat
open Go.RowKit
open Go.Lib (hid)
variable {w w':World} {v:Value} {input:List Int} {S:List (List Int)} {l:zac}
theorem Tryz.infoRat:(Tryz.prog.info? 51).map (fun i=>(i.zero,i.size,i.bytes))=some (some (.agg #[.bool false,.slice none 0 0,.slice none 0 0]),3,56):=Yb
structure zbZ (B:Nat) (W0 w:World):Prop where
 base:B<=w.heap.size
 be:Below B W0 w
theorem zbZ.start{B:Nat}{W0:World}(h:B<=W0.heap.size):zbZ B W0 W0.drew:=⟨h,(Ze _ _).drew⟩
theorem zbZ.gp{B:Nat}{W0 X X':World}(h:zbZ B W0 X)(k:Below X.heap.size X X'):zbZ B W0 X':=⟨Zi h.base k.size,h.be.trans (k.mono h.base)⟩
inductive Sp where
 | val (v:Value)
 | rat (q:zaf)
 | tup (q:zaf)
 | row (q:zaf)
structure zj4 (w:World) (v:Value) (x:zaf):Prop where
 ex:∃(g:Nat) (an ad:Option Addr) (cn cd:Nat),v=.slice (some ⟨g,0,none⟩) 1 1/\g<w.heap.size/\w.cell? ⟨g,0,none⟩=some (.bool x.neg)/\w.cell? ⟨g,1,none⟩=some (.slice an x.num.length cn)/\w.cell? ⟨g,2,none⟩=some (.slice ad x.den.length cd)/\
  x.num.length<=cn/\x.den.length<=cd/\zw w an x.num/\zw w ad x.den
theorem zj4.below{x:zaf}(h:zj4 w v x)(hb:Below w.heap.size w w'):zj4 w' v x:=by
 obtain⟨g,an,ad,cn,cd,e,hg,h0,h1,h2,h3,h4,h5,h6⟩:=h.ex;exact⟨g,an,ad,cn,cd,e,Zb hg hb.size,(hb.cell (p:=⟨g,0,none⟩) hg).trans h0,(hb.cell (p:=⟨g,1,none⟩) hg).trans h1,(hb.cell (p:=⟨g,2,none⟩) hg).trans h2,h3,h4,h5.below hb,h6.below hb⟩
theorem zj4.alloc{w:World}{x:zaf}{an ad:Option Addr}{cn cd:Nat}(h3:x.num.length<=cn)(h4:x.den.length<=cd)(h5:zw w an x.num)(h6:zw w ad x.den)(T:Nat):
  zj4 (w.alloc (.cells #[.bool x.neg,.slice an x.num.length cn,.slice ad x.den.length cd] T)) (.slice (some ⟨w.heap.size,0,none⟩) 1 1) x:=by
 have hb:Below w.heap.size w (w.alloc (.cells #[.bool x.neg,.slice an x.num.length cn,.slice ad x.den.length cd] T)):=(Ze _ w).alloc (Za _) _;exact⟨w.heap.size,an,ad,cn,cd,rfl,Yc,by rw[World.cell?_alloc_at _ _ _ _ rfl];rfl,by rw[World.cell?_alloc_at _ _ _ _ rfl];rfl,by rw[World.cell?_alloc_at _ _ _ _ rfl];rfl,h3,h4,h5.below hb,h6.below hb⟩
def GR(L:List Sp)(i:Nat)(v:Value)(w:World):Prop:=
 match L[i]? with
 | some (.val x)=>v=x
 | some (.rat q)=>RatV w v q
 | some (.tup q)=>∃u,v=.tuple #[u,.int .i64 0]/\RatV w u q
 | some (.row q)=>zj4 w v q
 | none=>True
theorem zcY{L:List Sp}{i:Nat}(h:GR L i v w)(hb:Below w.heap.size w w'):GR L i v w':=by
 unfold GR at h⊢
 split
 ·exact IN
 ·rename_i x hx;rw[hx]at h;exact h.below hb
 ·rename_i x hx;rw[hx]at h;exact let ⟨u,e,k⟩:=h;⟨u,e,k.below hb⟩
 ·rename_i x hx;rw[hx]at h;exact h.below hb
 ·trivial
theorem zaW(input:List Int)(S:List (List Int))(l:zac):
  ((zL input S l).2=1/\(zL input S l).1=[]/\((zk input && (decide (S.length+1<=64) && zai l S.length)) && S.all zk)=false) ∨
  ((((zk input && (decide (S.length + 1 <= 64) && zai l S.length)) && S.all zk) = true) /\ ((zL input S l).2 = 7 /\ (zL input S l).1 = [] /\ ((za9 input S l).2 && zk (za9 input S l).1) = false ∨
    (zL input S l).2=0/\(zL input S l).1=(za9 input S l).1/\(za9 input S l).2=true/\zk (za9 input S l).1=true)):=by
 unfold zL
 cases h:((zk input && (decide (S.length+1<=64) && zai l S.length)) && S.all zk)with
 | false=>exact .inl ⟨rfl,rfl,rfl⟩
 | true=>
  refine .inr ⟨rfl,?_⟩
  cases h2:((za9 input S l).2 && zk (za9 input S l).1)with
  | false=>exact .inl ⟨rfl,rfl,rfl⟩
  | true=>
   rw[Zu]at h2;exact .inr ⟨rfl,rfl,h2.1,h2.2⟩
theorem zcP(h:(zL input S l).2=0):zk (zL input S l).1=true:=by
 rcases zaW input S l with⟨h1,_,_⟩|⟨_,⟨h1,_,_⟩|⟨_,h2,_,h3⟩⟩
 ·omega
 ·omega
 ·rw[h2];exact h3
theorem zgX(h1:zk input=true)(h2:S.length+1<=64)(h3:zai l S.length=true)(h4:S.all zk=true)(h:(zL input S l).2≠0):(zL input S l).2=7:=by
 rcases zaW input S l with⟨_,_,k⟩|⟨_,⟨k,_,_⟩|⟨k,_,_,_⟩⟩
 ·rw[h1,h3,h4,Zk h2]at k;cases k
 ·exact k
 ·exact absurd k h
theorem zbP(input:List Int)(S:List (List Int))(l:zac)(r:List zac):
  zW input S (l::r)=if(zL input S l).2=0 then zW input (S++[(zL input S l).1]) r else([],S.length,(zL input S l).2):=by
 rw[zW]
def zdQ(input:List Int)(S T:List (List Int))(L:List zac):Prop:=
 T.length=L.length/\∀(j:Nat) (s:List Int) (l:zac),T[j]? =some s->L[j]? =some l->zL input (S++T.take j) l=(s,0)
theorem zf7{input:List Int}:∀(L:List zac) (S:List (List Int)),(∃T,zdQ input S T L/\zW input S L=(S++T,0,0))∨((zW input S L).2.2≠0/\(zW input S L).1=[]):=by
 intro L
 induction L with
 | nil=>intro S;exact .inl ⟨[],⟨rfl,Yc⟩,by simp[zW]⟩
 | cons l r ih=>
  intro S;rw[zbP]
  by_cases h:(zL input S l).2=0
  ·rw[Zm h]
   rcases ih (S++[(zL input S l).1])with⟨T,⟨h1,h2⟩,h3⟩|h1
   ·refine .inl ⟨(zL input S l).1::T,⟨by simp[h1],fun j s l' hs hl=>?_⟩,by rw[h3,ZW];rfl⟩
    cases j with
    | zero=>
     simp at hs hl;subst hs hl;rw[Zw,ZaK,<- h]
    | succ j=>
     have:=h2 j s l' (by simpa using hs) (by simpa using hl);rw[ZW]at this;rw[Zo];exact this
   ·exact .inr h1
  ·rw[Zg h];exact .inr ⟨h,rfl⟩
theorem zdQ.valid{T:List (List Int)}{L:List zac}(h:zdQ input [] T L):T.all zk=true:=by
 rw[Zau];intro s hs;obtain⟨j,hj⟩:=ZaX hs;have hlt:=(Zr.1 hj).1;obtain⟨l,hl⟩:∃l,L[j]? =some l:=⟨L[j]'(by rw[<- h.1];exact hlt),Zh _⟩
 have:=h.2 j s l hj hl;have h2:=zcP (input:=input) (S:=[]++T.take j) (l:=l) (by rw[this]);rw[this]at h2;exact h2
theorem zgb{input:List Int}(hi:zk input=true):∀(L:List zac) (S:List (List Int)),S.all zk=true->S.length+L.length<=64->zam L S.length=true->(zW input S L).2.2=0∨(zW input S L).2.2=7:=by
 intro L
 induction L with
 | nil=>intro S _ _ _;exact .inl rfl
 | cons l r ih=>
  intro S hS hl hok;unfold zam at hok;rw[Zu]at hok;rw[zbP]
  by_cases h:(zL input S l).2=0
  ·rw[Zm h]
   refine ih _ ?_ ?_ ?_
   ·rw[Zbx,hS,List.all_cons,List.all_nil,zcP h];rfl
   ·simp at hl⊢;omega
   ·rw[ZE];simpa using hok.2
  ·rw[Zg h];exact .inr (zgX hi (by simp at hl;omega) hok.1 hS h)
theorem zaA(m:zec):(zbe m=false/\zI m=([],0,1))∨(zbe m=true/\((∃T,zdQ m.input [] T m.layers/\zI m=(T,0,0))∨((zI m).2.2=7/\(zI m).1=[]))):=by
 unfold zI
 cases h:zbe m with
 | false=>exact .inl ⟨rfl,rfl⟩
 | true=>
  refine .inr ⟨rfl,?_⟩
  rw[Zm rfl];have hv:=h;unfold zbe at hv;simp only[Zu,ZC]at hv
  rcases zf7 (input:=m.input) m.layers []with⟨T,h1,h2⟩|⟨h1,h2⟩
  ·exact .inl ⟨T,h1,by simpa using h2⟩
  ·exact .inr ⟨(zgb hv.1 m.layers [] rfl (by simpa using hv.2.1) (by simpa using hv.2.2)).resolve_left h1,h2⟩
theorem zae{s:List Int}(h:zk s=true):1<=zt s/\zt s<=16384:=by
 have key:∀(l:List Int) (p:Int),1<=p->p<=16384->z9 l p=true->1<=za7 l p/\za7 l p<=16384:=by
  intro l
  induction l with
  | nil=>intro p h1 h2 _;exact⟨h1,h2⟩
  | cons d r ih=>
   intro p h1 h2 h;simp only[z9]at h
   split at h
   ·cases h
   ·rename_i hc
    have:=zfk h1 h2 (d:=d) Ya Ya;exact ih _ this.1 Ya h
 unfold zt;rw[Zm h];exact key s 1 Ya Ya (by have:=zdu h;simpa using this)
theorem znf{n:Int}(h1:1<=n)(h2:n<=16384):zk [n]=true/\zt [n]=n:=by
 have h:zk [n]=true:=by
  unfold zk z9;rw[Zg Ya];simp[z9]
 exact⟨h,by unfold zt;rw[Zm h];simp[za7]⟩
theorem zj2{input:List Int}{S:List (List Int)}{l:zac}(h:(zL input S l).2=0)(hk:5<=l.kind):zt (zL input S l).1=zt (zh input S):=by
 rcases zaW input S l with⟨h1,_,_⟩|⟨hc,⟨h1,_,_⟩|⟨_,h2,_,h3⟩⟩
 ·omega
 ·omega
 ·rw[h2];rw[h2]at *;have hv:zk (zh input S)=true:=by
   simp only[Zu]at hc;unfold zh
   cases hg:S.getLast? with
   | none=>exact hc.1.1
   | some s=>
    have:=ZaY hg;exact Zau.1 hc.2 s this
  unfold za9;rw[Zg Ya,Zg Ya,Zg Ya]
  by_cases k6:l.kind=6
  ·rw[Zm k6];have:=zae hv;exact(znf this.1 this.2).2
  ·rw[Zg k6]
   split<;>rfl
