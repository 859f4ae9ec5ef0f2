/-
  Contracts: RiC, RhD, RiD, RiE, RiF, LwD.
-/
import Derived.Test.YtfgmmghmmfmdgaaGreatO28
import Derived.Test.YtfgmmghmmfmdgaaGreatO0
set_option linter.all false
set_option maxRecDepth 100000
set_option maxHeartbeats 3200000
namespace Go.Proofs.YtfgmmghmmfmdgaaGreat
open Go.RowKit
open Go.Lib (hid)
variable {P:Prop} {x:List Rat} {f:zl} {D1 B1 D2 B2 N nx cU cO D B C1 C2 W:Nat} {w:World} {ax aU aO:Option Addr} {m:zec} {G:zd6} {U:List zl} {input:List Int}
theorem O9(h:P:=by simp only[zdt,Region.binds,ZB,Zn,Zx,GP,SP.val,SP.frm,SP.rat,SP.tru,Zf,Zc]at hL;simp[ze,Act.put];clear hL;exact Og):P:=h
theorem TQ(h:P:=by
 simp at hj;subst hj;exact⟨an,ad,cn,cd,by rw[World.cell?_alloc_at _ _ _ _ rfl];rfl,by rw[World.cell?_alloc_at _ _ _ _ rfl];rfl,by rw[World.cell?_alloc_at _ _ _ _ rfl];rfl,⟨an,ad,cn,cd,rfl,b2,b3,b4.below hal,b5.below hal⟩⟩
):P:=h
theorem EP(h:P:=by
 rw[HSuc.out]at HPost;go_roundw
 case rel=>exact⟨k+1,b3,k3,hlt,rfl,Yg,HPost.out⟩
 case measure=>simp[intOf];omega
):P:=h
theorem Ve(h:P:=by simp[results,Tryz.results16,go_sem]):P:=h
theorem zhP(x:List Rat)(u:Nat)(q:Rat):∀l:List (Nat×Rat),zds x (l++[(u,q)])=zds x l+q*x.getD u 0
 | []=>by show q*x.getD u 0+0=0+_;rw[Za5,Za4]
 | (v,p)::r=>by
  show p*x.getD v 0+zds x (r++[(u,q)])=(p*x.getD v 0+zds x r)+_
  rw[zhP x u q r,Rat.add_assoc]
def zoO(x:List Rat)(f:zl)(k:Nat):Rat:=f.c+zds x (f.ts.take k)
theorem zjn(x:List Rat)(f:zl):zoO x f 0=f.c:=by show f.c+0=_;rw[Za5]
theorem zk5(x:List Rat)(f:zl):zoO x f f.ts.length=zK x f:=by
 unfold zoO zK;rw[Zae,Rat.add_comm]
theorem zjC{k u:Nat}{q:Rat}(h:f.ts[k]? =some (u,q)):zoO x f (k+1)=zoO x f k+q*x.getD u 0:=by
 unfold zoO;rw[zaG h,zhP,Rat.add_assoc]
theorem Bd.parE{D1 B1 D2 B2 N:Nat}{f:zl}{x:List Rat}(bf:BdF D1 B1 N f)(bx:BdL D2 B2 x)(h2:0<D2):∀k,Bd (D1*D2) (B1+k*(B1*B2)) (Go.Proofs.YtfgmmghmmfmdgaaGreat.zoO x f k)
 | 0=>by rw[zjn,Zbe,ZU];exact bf.c.bump h2
 | k+1=>by
  cases hk:f.ts[k]? with
  | none=>
   have e:Go.Proofs.YtfgmmghmmfmdgaaGreat.zoO x f (k+1)=Go.Proofs.YtfgmmghmmfmdgaaGreat.zoO x f k:=by
    have hl:=List.getElem?_eq_none_iff.1 hk;unfold Go.Proofs.YtfgmmghmmfmdgaaGreat.zoO;rw[ZM Ya,ZM hl]
   rw[e];exact(Bd.parE bf bx h2 k).mono (by rw[Zac];omega)
  | some t=>
   obtain⟨u,q⟩:=t;rw[zjC hk,Zac,<- Zat];exact(Bd.parE bf bx h2 k).add ((bf.mem (Zq hk)).mul (bx.at h2 u))
def zmi(D1 B1 D2 B2 N:Nat):Prop:=Pay (D1*D2) (B1+N*(B1*B2)+B1*B2+B2)
theorem zmi.mono{N':Nat}(h:zmi D1 B1 D2 B2 N)(hN:N'<=N):zmi D1 B1 D2 B2 N':=
 Pay.le h (Za _) (by have:=Zl (B1*B2) hN;omega)
theorem zmi.p1(h:zmi D1 B1 D2 B2 N)(h2:0<D2):Pay D1 B1:=Pay.le h (ZaE _ h2) Ya
theorem zmi.p2(h:zmi D1 B1 D2 B2 N)(h1:0<D1):Pay D2 B2:=Pay.le h (Zad _ h1) Ya
theorem zqq{v:Value}(cx:Nat)(hf:zap w v f)(hX:zm w ax (x.map zc))(hnx:x.length=nx)(bf:BdF D1 B1 x.length f)(bx:BdL D2 B2 x)(h2:0<D2)(hP:zmi D1 B1 D2 B2 x.length):
  Calls Tryz.prog 70 #[v,.slice ax nx cx] w (zmV w (zc (zK x f)) 0):=by
 obtain⟨a,c,an,ad,cn,cd,rfl,hc,ht,l1,l2,u1,u2⟩:=hf.parts;have q1:=ht.len;have q2:=hX.len;rw[Zv,hnx]at q2;have h1:=bf.pos;obtain⟨HX,HT,HNx,HCan,HTop,HLp⟩:=hd6 hX ht hnx (show zbB f.ts 0 from bf.can) (show ∀(t:Nat×Rat),t∈f.ts->t.1<nx from fun t ht=>by rw[<- hnx];exact Zb (zj8 ht) bf.top) (fun(t:Nat×Rat) (ht:t∈f.ts)=>(hP.p1 h2).bd (bf.mem ht));have HLx:=hid (fun(k:Nat)=>(hP.p2 h1).bd (bx.at h2 k));have hfew:=bf.few;obtain⟨HPa,HPr⟩:=hd2 (fun(k:Nat) (hk:k<=f.ts.length)=>Pay.b5 (D:=D1*D2) (B:=B1+x.length*(B1*B2)+B1*B2+B2) hP ((Bd.parE bf bx h2 k).mono (by have:=Zl (B1*B2) (Zi hk hfew);omega))) (fun(t:Nat×Rat) (ht:t∈f.ts) (k:Nat)=>Pay.b5 (D:=D1*D2) (B:=B1+x.length*(B1*B2)+B1*B2+B2) hP (((bf.mem ht).mul (bx.at h2 k)).mono Ya));obtain⟨RR,hRR⟩:∃RR,RR=zK x f:=⟨_,rfl⟩
 have HRR:=hid hRR;rw[<- hRR];have HRc:=hid (show RatV w (.agg #[.bool (zc f.c).neg,.slice an (zc f.c).num.length cn,.slice ad (zc f.c).den.length cd]) (zc f.c)from⟨an,ad,cn,cd,rfl,l1,l2,u1,u2⟩)
 -- the boxes
 have x1:=zbl.alloc w (.slice a f.ts.length c) (.bool (zc f.c).neg) (.slice an (zc f.c).num.length cn) (.slice ad (zc f.c).den.length cd) 53;have b1:=blA w (.cells #[.slice a f.ts.length c,.bool (zc f.c).neg,.slice an (zc f.c).num.length cn,.slice ad (zc f.c).den.length cd] 53);have s1:(w.alloc (.cells #[.slice a f.ts.length c,.bool (zc f.c).neg,.slice an (zc f.c).num.length cn,.slice ad (zc f.c).den.length cd] 53)).heap.size=w.heap.size+1:=Yc;obtain⟨W1,hW1⟩:∃W1,W1=w.alloc (.cells #[.slice a f.ts.length c,.bool (zc f.c).neg,.slice an (zc f.c).num.length cn,.slice ad (zc f.c).den.length cd] 53):=⟨_,rfl⟩
 rw[<- hW1]at x1 b1 s1;have n2:=zjR.alloc W1 51;have b2:=blA W1 (zc9 51);have s2:(W1.alloc (zc9 51)).heap.size=w.heap.size+2:=by simp[s1]
 rw[s1]at n2;obtain⟨W2,hW2⟩:∃W2,W2=W1.alloc (zc9 51):=⟨_,rfl⟩
 rw[<- hW2]at n2 b2 s2;have hb12:=b1.trans (b2.mono b1.size);have a3:=zem.alloc (W:=W2) l1 l2 (u1.below hb12) (u2.below hb12) 51;have b3:=blA W2 (.cells #[.bool (zc f.c).neg,.slice an (zc f.c).num.length cn,.slice ad (zc f.c).den.length cd] 51);have s3:(W2.alloc (.cells #[.bool (zc f.c).neg,.slice an (zc f.c).num.length cn,.slice ad (zc f.c).den.length cd] 51)).heap.size=w.heap.size+3:=by simp[s2]
 rw[s2]at a3;obtain⟨W3,hW3⟩:∃W3,W3=W2.alloc (.cells #[.bool (zc f.c).neg,.slice an (zc f.c).num.length cn,.slice ad (zc f.c).den.length cd] 51):=⟨_,rfl⟩
 rw[<- hW3]at a3 b3 s3;have hb13:=hb12.trans (b3.mono hb12.size);obtain⟨HF4,HA0,HN0,HB12,S2,HW1⟩:=hd6 (x1.below b2) (show AcI W2 W3 W2.heap.size (zc (zoO x f 0))from by rw[zjn];exact⟨by rw[s2];exact a3,b3,Za _⟩) n2 hb12 s2 hW1;obtain⟨HW2,HW3⟩:=hd2 hW2 hW3;clear x1 b1 s1 n2 b2 s2 hb12 a3 b3 s3 hb13 hW1 hW2 hW3 ht l1 l2 u1 u2 hf bf bx hP hRR hX hnx hfew
 go_enter Tryz.func70,Tryz.ntmps70
 go_upto_region 2 with fail
 rw[<- HW1.out,<- HW2.out,<- HW3.out];obtain⟨b6,hb6⟩:∃b6,b6=w.heap.size+1+1:=⟨_,rfl⟩
 rw[<- hb6];have e6:W2.heap.size=b6:=by rw[hb6];exact S2.out
 rw[e6]at HA0;have H6:=hid e6;have h6a:w.heap.size+1<b6:=Ya;have h6b:w.heap.size<b6:=Ya;generalize hn:f.ts.length=n at *;have HNn:=hid hn;clear hb6 e6 hn HW1 HW2 HW3;go_wp2
 go_loopw [7] (fun i wr=>∃j:Nat,j<=n/\i=.int .i64 (j:Int)/\Hid (AcI W2 wr b6 (zc (zoO x f j)))) (fun i _=>n-(intOf i).toNat)
 case atStart=>exact⟨0,Zs _,rfl,HA0.out⟩
 case round=>
  obtain⟨j,hj,rfl,HA⟩:=hrel;have HB:=hid HA.out.bl;have HBw:=htr HB12 HB.out;have hF4:=HF4.out.below HB.out;obtain⟨x0,x1,x2,x3,xf,xlt⟩:=hF4
  by_cases hlt:j<n
  ·obtain⟨b1,o1,⟨u,p⟩,p0,p1,p2,p3,rfl,hb1,hx,e0,e1,e2,e3,rfl,hrc⟩:=(HT.out.below zby HBw.out).pick (k:=j) XN;simp only at e0 hrc;have hm:=Zq hx;have htp:=HTop.out _ hm;simp only at htp;have HM:=hid hm;have HV1:=hrc.val;obtain⟨an',ad',cn',cd',rfl,rfl,rfl,_⟩:=hrc.ex;obtain⟨bx,ox,y,yn,yd,ycn,ycd,hax,hbx,hyy,yc0,yc1,yc2,hyv⟩:=(HX.out.below HBw.out).pick (k:=u) (by rw[Zv,HNx.out];exact htp);obtain⟨hy1,hy2⟩:=za5 hyy;subst hax;have hal:=blA wr (.cells #[.int .i64 (u:Int),.bool (zc p).neg,.slice an' (zc p).num.length cn',.slice ad' (zc p).den.length cd'] 84);have hb4:=zbl.alloc wr (.int .i64 (u:Int)) (.bool (zc p).neg) (.slice an' (zc p).num.length cn') (.slice ad' (zc p).den.length cd') 84;obtain⟨HB4,HV2,HYv,HAl,HA2⟩:=hd5 hb4 (HV1.below hal) (hyv.below hal) hal (HA.out.below hal);have yc0:=(hal.cell hbx).trans yc0;have yc1:=(hal.cell hbx).trans yc1;have yc2:=(hal.cell hbx).trans yc2;have hbx:=Zb hbx hal.size;obtain⟨xu,hxu⟩:∃xu,xu=x.getD u 0:=⟨_,rfl⟩
   obtain⟨S,hS⟩:∃S,S=zoO x f j:=⟨_,rfl⟩
   obtain⟨T,hT⟩:∃T,T=S+p*xu:=⟨_,rfl⟩
   have HT2:Hid (T=zoO x f (j+1)):=by unfold Hid;rw[hT,hS,hxu];exact(zjC hx).symm
   rw[<- hxu]at hy2;rw[<- hS]at HA2;have hls:=HPa.out j Ya;have hlp:=HLp.out _ hm;have hlx:=HLx.out u;have hlq:=HPr.out _ hm u;simp only at hlp hlq;rw[<- hS]at hls;rw[<- hxu]at hlx hlq;obtain⟨HLs,HLp1,HLx1,HLq,HY2,HTe⟩:=hd6 hls hlp hlx hlq hy2 hT;obtain⟨⟨sn,sd,scn,scd,hsb,hs2,hs3,hs4,hs5⟩,hsn⟩:=HA2.out.box;have HSv:=hid (show RatV _ (.agg #[.bool (zc S).neg,.slice sn (zc S).num.length scn,.slice sd (zc S).den.length scd]) (zc S)from⟨sn,sd,scn,scd,rfl,hs2,hs3,hs4,hs5⟩);have d1:decide ((u:Int)<0)=false:=Zj Ya;have d2:decide ((nx:Int)<=(u:Int))=false:=Zj Ya;have d2n:decide (nx<=u)=false:=Zj Ya;have huI:(0:Int)<=(u:Int):=Ya;have huI2:(u:Int)<(nx:Int):=Ya;obtain⟨s0,s1,s2,sf,slt⟩:=hsb;clear hx hm HV1 hrc hyy hy1 hyv hy2 hxu hS hT hls hlp hlx hlq hs2 hs3 hs4 hs5 hsn hb4 hal
   go_upto_region 6 with fail
   generalize wr.alloc (.cells #[.int .i64 (u:Int),.bool (zc p).neg,.slice an' (zc p).num.length cn',.slice ad' (zc p).den.length cd'] 84)=wj at *;obtain⟨t0,t1,t2,t3,tf,tlt⟩:=HB4.out;obtain⟨bt,hbt⟩:∃bt,bt=wr.heap.size:=⟨_,rfl⟩
   rw[<- hbt]at t0 t1 t2 t3 tlt⊢;have Hbt:=hid hbt;clear hbt;have HCe:Hid (∀X,Below wj.heap.size wj X->X.cell? ⟨b6,0,none⟩=some (.bool (zc S).neg)/\X.cell? ⟨b6,1,none⟩=some (.slice sn (zc S).num.length scn)/\X.cell? ⟨b6,2,none⟩=some (.slice sd (zc S).den.length scd)/\b6<X.heap.size/\
     X.cell? ⟨bt,0,none⟩=some (.int .i64 (u:Int))/\X.cell? ⟨bt,1,none⟩=some (.bool (zc p).neg)/\X.cell? ⟨bt,2,none⟩=some (.slice an' (zc p).num.length cn')/\X.cell? ⟨bt,3,none⟩=some (.slice ad' (zc p).den.length cd')/\bt<X.heap.size/\
     X.cell? ⟨bx,ox+u*3,none⟩=some (.bool y.neg)/\X.cell? ⟨bx,ox+u*3+1,none⟩=some (.slice yn y.num.length ycn)/\X.cell? ⟨bx,ox+u*3+2,none⟩=some (.slice yd y.den.length ycd)/\bx<X.heap.size):=fun X hb=>
    ⟨(hb.cell slt).trans s0,(hb.cell slt).trans s1,(hb.cell slt).trans s2,Zb slt hb.size,(hb.cell tlt).trans t0,(hb.cell tlt).trans t1,(hb.cell tlt).trans t2,(hb.cell tlt).trans t3,Zb tlt hb.size,(hb.cell hbx).trans yc0,(hb.cell hbx).trans yc1,(hb.cell hbx).trans yc2,Zb hbx hb.size⟩
   have HMu:Hid (∀X,Below wj.heap.size wj X->Calls Tryz.prog 80 #[.agg #[.bool (zc p).neg,.slice an' (zc p).num.length cn',.slice ad' (zc p).den.length cd'],.agg #[.bool y.neg,.slice yn y.num.length ycn,.slice yd y.den.length ycd]] X (zcj X (zc (p*xu)))):=fun X hb=>by
    have h:=zpY (HV2.out.below hb) (HYv.out.below hb) HLp1.out (by rw[HY2.out];exact HLx1.out);rw[zH,HY2.out,zH,<- HY2.out]at h;exact h
   have HAd:Hid (∀X,Below wj.heap.size wj X->∀v2,RatV X v2 (zc (p*xu))->Calls Tryz.prog 78 #[.agg #[.bool (zc S).neg,.slice sn (zc S).num.length scn,.slice sd (zc S).den.length scd],v2] X (zcj X (zc T))):=fun X hb v2 hv2=>by
    have h:=zke (HSv.out.below hb) hv2 (HLs.out.mono Ya) (HLq.out.mono Ya);rw[zH,zH,<- HTe.out]at h;exact h
   go_upto_region 8 with fail
   clear t0 t1 t2 t3 tf tlt s0 s1 s2 sf slt yc0 yc1 yc2 hbx x0 x1 x2 x3 xf xlt e0 e1 e2 e3 hb1
   refine zbX 10 Yb Yb Yb Yb Yd (zbZ wj.heap.size wj) (fun w w'=>Below w.heap.size w w') (GP [SP.val (.agg #[.bool (zc S).neg,.slice sn (zc S).num.length scn,.slice sd (zc S).den.length scd]),SP.val (.pointer (some ⟨bt,1,none⟩)),SP.val (.agg #[.bool (zc p).neg,.slice an' (zc p).num.length cn',.slice ad' (zc p).den.length cd']),SP.val (.slice (some ⟨bx,ox,none⟩) nx cx),SP.val (.pointer (some ⟨bt,0,none⟩)),SP.val (.int .i64 (u:Int)),SP.val (.pointer (some ⟨bx,ox+u*3,none⟩)),SP.val (.agg #[.bool y.neg,.slice yn y.num.length ycn,.slice yd y.den.length ycd]),SP.rat (zc (p*xu)),SP.rat (zc T)]) (fun i v w w' h hb=>zpg h hb) (zbZ.start (Za _)) ?_ ?_
   ·intro ops hops;have HOps:=hid hops;clear hops;simp only[Zo,Zw,zbR]
    refine⟨?_,?v1,?_,?v3,?v4,?_,?_,?_,?_,?_,trivial⟩
    all_goals (intro y' X hR hL;have hB:=hR.base)
    case v1|v3|v4=>
     exact O9
    ·obtain⟨s0,s1,s2,slt,t0,t1,t2,t3,tlt,y0,y1,y2,ylt⟩:=HCe.out X hR.be;exact O9
    ·obtain⟨s0,s1,s2,slt,t0,t1,t2,t3,tlt,y0,y1,y2,ylt⟩:=HCe.out X hR.be;simp only[zdt,Region.binds,ZB,Zn,Zx,GP,SP.val,SP.frm,SP.rat,SP.tru,Zf,Zc]at hL;simp[ze,Act.put];generalize y' 1=y1 at hL⊢;obtain⟨rfl,_⟩:=hL;exact Og
    ·obtain⟨s0,s1,s2,slt,t0,t1,t2,t3,tlt,y0,y1,y2,ylt⟩:=HCe.out X hR.be;simp only[zdt,Region.binds,ZB,Zn,Zx,GP,SP.val,SP.frm,SP.rat,SP.tru,Zf,Zc]at hL;simp[ze,Act.put];generalize y' 4=y4 at hL⊢;obtain⟨rfl,_⟩:=hL;exact Og
    ·simp only[zdt,Region.binds,ZB,Zn,Zx,GP,SP.val,SP.frm,SP.rat,SP.tru,Zf,Zc]at hL;simp[ze,Act.put];generalize y' 3=y3 at hL⊢;generalize y' 5=y5 at hL⊢;obtain⟨rfl,rfl,_⟩:=hL;exact Og
    ·obtain⟨s0,s1,s2,slt,t0,t1,t2,t3,tlt,y0,y1,y2,ylt⟩:=HCe.out X hR.be;simp only[zdt,Region.binds,ZB,Zn,Zx,GP,SP.val,SP.frm,SP.rat,SP.tru,Zf,Zc]at hL;simp[ze,Act.put];generalize y' 6=y6 at hL⊢;obtain⟨rfl,_⟩:=hL;exact Og
    ·simp only[zdt,Region.binds,ZB,Zn,Zx,GP,SP.val,SP.frm,SP.rat,SP.tru,Zf,Zc]at hL;simp[ze,Act.put];generalize y' 2=y2 at hL⊢;generalize y' 7=y7 at hL⊢;obtain⟨rfl,rfl,_⟩:=hL;have HR:=hid hR;clear hR;have HCt:=hid (HMu.out X HR.out.be);exact Up
    ·simp only[zdt,Region.binds,ZB,Zn,Zx,GP,SP.val,SP.frm,SP.rat,SP.tru,Zf,Zc]at hL;simp[ze,Act.put];generalize y' 0=y0 at hL⊢;generalize y' 8=y8 at hL⊢;obtain⟨rfl,H8,_,_⟩:=hL;obtain⟨K8,HR⟩:=hd2 H8 hR;clear hR H8;have HCt:=hid (HAd.out X HR.out.be _ K8.out);exact Up
   ·intro ops y' X hR hL;have hB:=hR.base;have J9:=hL.2;simp only[GP,SP.val,SP.frm,SP.rat,SP.tru,Zf,Zc]at J9;obtain⟨s0,s1,s2,slt,t0,t1,t2,t3,tlt,y0,y1,y2,ylt⟩:=HCe.out X hR.be;clear hL;simp only[Zo,Zw,ZG,ZO];simp[ze,Act.put];generalize y' 9=y9 at J9⊢;have HR:=hid hR;clear hR;obtain⟨rn,rd,rcn,rcd,rfl,r2,r3,r4,r5⟩:=J9.ex;have HSt:=hid (HA2.out.step (show Below wj.heap.size wj X from HR.out.be) r2 r3 r4 r5);rw[HT2.out]at HSt;have HT3:=hid HT2.out;clear J9 r2 r3 r4 r5 t0 t1 t2 t3 tlt y0 y1 y2 ylt;obtain⟨⟨_,_,_,_,hbz,_⟩,_⟩:=(HA2.out.below (show Below wj.heap.size wj X from HR.out.be)).box;have zf:=hbz.free;clear hbz;go_wp2;rw[HT3.out];exact Ix
  ·obtain rfl:j=n:=Ya;have hN:=HN0.out.below HB.out;have hAc:=HA.out;rw[<- HNn.out,zk5,<- HRR.out]at hAc;obtain⟨⟨sn,sd,scn,scd,hsb,hs2,hs3,hs4,hs5⟩,hsn⟩:=hAc.box;obtain⟨s0,s1,s2,sf,slt⟩:=hsb;obtain⟨r0,r1,r2,rf,rlt⟩:=hN.c;have HNc:=hid hN.nc;have hlt1:w.heap.size<=w.heap.size+1:=Ya;have H2:=hid (And.intro hs2 (And.intro hs3 (And.intro hs4 hs5)));clear hAc hs2 hs3 hs4 hs5 hsn hN;go_wp2;exact Zp (v:=.tuple #[.agg #[.bool (zc RR).neg,.slice sn (zc RR).num.length scn,.slice sd (zc RR).den.length scd],.int .i64 0]) (by simp[results,Tryz.results70,go_sem,r0,r1,r2]) rfl ⟨_,rfl,RatV.store HNc.out H2.out.1 H2.out.2.1 H2.out.2.2.1 H2.out.2.2.2,zu HBw.out hlt1 _ _ _⟩
theorem zmw(h:zch m=(G,0)):(G.inputs:Int)=zt m.input/\1<=G.inputs/\G.inputs<=256/\G.units.length<=1024/\1<=G.outs.length/\G.outs.length<=256:=by
 have hcn:=(zj0 h).1;unfold zlu at hcn;unfold zch at h
 by_cases h0:(zI m).2.2=0
 ·rw[Zm h0]at h hcn
  split at h
  ·simp[zed]at h
  ·rename_i hlim
   obtain⟨T,hF⟩:=zoB (m:=m) [] h0;obtain⟨hv,hvT,_⟩:=hF.valid;have hz1:1<=zt m.input/\zt m.input<=16384:=zae hv;have hz2:1<=zt (zh m.input T)/\zt (zh m.input T)<=16384:=zae (zq5 hv hvT);obtain⟨x,hx⟩:∃x:List Rat,x.length=(zt m.input).toNat:=⟨List.replicate _ 0,Zbj ..⟩
   have hsz:(x.length:Int)=zt m.input:=Ya;have hI:=zij (zhs.start hsz) hF.ch;have hc:=zgU hI.len hI.size hI.x0;have hcl:=congrArg List.length hI.curr.2;rw[Zv]at hcl;have hG:G=⟨(zt m.input).toNat,(z6 (zt m.input).toNat m.input (zq (zt m.input).toNat) [] [] [] m.layers).1,zat (zq (zt m.input).toNat) (z6 (zt m.input).toNat m.input (zq (zt m.input).toNat) [] [] [] m.layers).2⟩:=(congrArg Prod.fst h).symm;have hT:(zI m).1=T:=by rw[hF.sh]
   rw[hT]at hlim hcn;rw[ZaV]at hc;rw[<- hx]at hG;have ho:(G.outs.length:Int)=zt (zh m.input T):=by
    rw[hG];show((zat (zq x.length) _).length:Int)=_
    rw[hcl];exact hc
   have hi:(G.inputs:Int)=zt m.input:=by rw[hG];exact hsz
   have hu:(G.units.length:Int)=zhn m.layers T:=hcn
   refine⟨hi,Ya,Ya,Ya,Ya,Ya⟩
 exact Im
theorem ziU(j:Nat):∀q∈zN x (U.take j),q∈zN x U:=by
 intro q hq;have h:zN x U=zN (zN x (U.take j)) (U.drop j):=by rw[<- zgW,List.take_append_drop]
 obtain⟨z,hz⟩:=zd4 (U.drop j) (zN x (U.take j));rw[h,hz];exact ZaQ _ hq
theorem zde.rats{wr:World}{a:Option Addr}{n c:Nat}{L:List zaf}(h:zde w wr (.slice a n c) L)(hl:L.length<=9223372036854775807):zm wr a L:=h.own.rats hl
theorem zmT(cx:Nat)(hU:zaz w aU G.units)(hO:zaz w aO G.outs)(hX:zm w ax (x.map zc))(hnx:x.length=nx)(hni:G.inputs=nx)(hG:zsx G D1 B1)
 (bx:BdL D2 B2 (zN x G.units))(h2:0<D2)(hP:zmi D1 B1 D2 B2 2048):
  Calls Tryz.prog 69 #[.agg #[.int .i64 (nx:Int),.slice aU G.units.length cU,.slice aO G.outs.length cO],.slice ax nx cx] w (zfB w ((zN x G.units).map zc,0)):=by
 have q1:=hG.i1;have q2:=hG.i2;have q3:=hG.u;have hD1:0<D1:=by
  have h:=hG.o1;exact(hG.bo _ (Z1 (show 0<G.outs.length from Ya))).pos
 have hP1:=hP.p1 h2;have hal:=blA w (.cells #[.int .i64 (nx:Int),.slice aU G.units.length cU,.slice aO G.outs.length cO] 30);have hx:=za4.alloc w (.int .i64 (nx:Int)) (.slice aU G.units.length cU) (.slice aO G.outs.length cO) 30;have hVd:=zk4 (cU:=cU) (cO:=cO) (hU.below zaX hal) (hO.below zaX hal) hG hP1;rw[hni]at hVd q1 q2;obtain⟨HVd,HUs,HXs,HAl,HBu,HBx⟩:=hd6 hVd hU hX hal hG.bu bx;obtain⟨HP,HX,HNx,HNi,HD1,HLx⟩:=hd6 hP hx hnx hni hD1 (show ∀q∈zN x G.units,zD (zc q) 524285 from fun q hq=>(Pay.b5 (hP.p2 hD1) (bx q hq)));clear hal hx hU hO hX hG hP hVd hnx hni bx hP1;obtain⟨RR,hRR⟩:∃RR,RR=zN x G.units:=⟨_,rfl⟩
 have HRR:=hid hRR;rw[<- hRR];clear hRR
 go_enter Tryz.func69,Tryz.ntmps69
 go_upto_region 1 with fail
 generalize w.alloc (.cells #[.int .i64 (nx:Int),.slice aU G.units.length cU,.slice aO G.outs.length cO] 30)=W at *;generalize hn:G.units.length=n at *;generalize hno:G.outs.length=no at *;have HNn:=hid hn;clear hn hno;obtain⟨x0,x1,x2,xf,xlt⟩:=HX.out
 go_wp2_with fail
 refine HVd.out.mono ?_
 rintro e w1 ⟨rfl,hb1⟩;have HB1:=htr HAl hb1;have HX1:=hid (HX.out.below hb1);have d1:((nx:Int) != (nx:Int))=false:=Yc;have d2:decide (¬ (nx:Int)=(nx:Int))=false:=Yc;clear hb1 HVd x0 x1 x2 xf xlt;obtain⟨x0,x1,x2,xf,xlt⟩:=HX1.out;go_wp2;clear x0 x1 x2 xf xlt d1 d2
 go_loopw [6,7] (fun v i wr=>∃(k:Nat) (a:Option Addr) (c:Nat),k<=nx/\v=.slice a k c/\i=.int .i64 (k:Int)/\Hid (zde w1 wr (.slice a k c) ((x.take k).map zc))) (fun _ i _=>nx-(intOf i).toNat)
 case atStart=>exact⟨0,none,0,Zs _,rfl,rfl,zde.start w1⟩
 case round=>
  obtain⟨k,a0,c0,hk,rfl,rfl,HOut⟩:=hrel;have HBr:=htr HB1 HOut.out.bl
  by_cases hlt:k<nx
  ·obtain⟨bx,ox,y,yn,yd,ycn,ycd,hax,hbx,hyy,yc0,yc1,yc2,hyv⟩:=(HXs.out.below HBr.out).pick (k:=k) (by rw[Zv,HNx.out];exact hlt);obtain⟨hy1,hy2⟩:=za5 hyy;have hkx:k<x.length:=by rw[HNx.out];exact hlt
   have hmex:x.getD k 0∈zN x G.units:=by
    obtain⟨z,hz⟩:=zd4 G.units x;rw[hz,Zd,Zh hkx];exact ZaQ _ (Z1 _)
   have hly:=HLx.out _ hmex;rw[<- hy2]at hly;have hC:=zeJ hyv (hly.mono Ya);rw[hy2,za0,zH,<- hy2]at hC;have HC:=hid hC;have hvl:((x.take k).map zc).length=k:=by rw[Zv,Z8];omega
   have HVl:=hid hvl;have HSuc:Hid ((x.take k).map zc++[y]=(x.take (k+1)).map zc):=by
    unfold Hid;rw[Zap,Zh hkx,Zay,hy2,Zd,Zh hkx];rfl
   subst hax;clear hyy hy1 hmex hly hC hvl hyv hy2 hkx
   go_wp2_with fail
   refine HC.out.mono ?_
   rintro e w2 ⟨v2,rfl,hv2,hb2⟩;obtain⟨bn',bd',dn',dd',rfl,g2,g3,g4,g5⟩:=hv2.ex;have HRow:=hid (zj4.alloc g2 g3 g4 g5 51);have hal1:=blA w2 (zbb y bn' dn' bd' dd' 51);have HO2:=hid ((HOut.out.below hb2).below hal1);clear hv2 hb2 g4 g5 hal1 HC
   go_wp2_with (at_builtin;refine zd8 rfl (.tmp 27) (.tmp 33) 35 rfl w1.heap.size Tryz.underlying35 Tryz.infoRat (.slice a0 k c0) k _ HVl.out rfl HO2.out.own _ y HRow.out rfl Ya HO2.out.bl.size ?_;intro b3 k3 w3 hown hk3 hg hbe hnx;have HPost:=hid (show zde w1 w3 (.slice b3 (k+1) k3) ((x.take k).map zc++[y])from⟨hown,HO2.out.bl.trans hbe⟩);clear hown hg hbe hnx)
   exact EP
  ·obtain rfl:k=nx:=Ya;have hO:=HOut.out;rw[ZM (by rw[HNx.out];exact Za _)]at hO;obtain⟨HO,HXr⟩:=hd2 (show zde w1 wr (.slice a0 k c0) ((zN x (G.units.take 0)).map zc)from hO) (HX1.out.below HOut.out.bl);clear hO HOut hlt hk;obtain⟨wo,rfl⟩:∃wo:World,wo=wr:=⟨_,rfl⟩
   go_wp2
   go_loopw [6,8] (fun v i wr=>∃(j:Nat) (a:Option Addr) (c:Nat),j<=n/\v=.slice a (k+j) c/\i=.int .i64 (j:Int)/\Hid (zde w1 wr (.slice a (k+j) c) ((zN x (G.units.take j)).map zc))) (fun _ i _=>n-(intOf i).toNat)
   case atStart=>exact⟨0,a0,c0,Zs _,Yc,rfl,HO.out⟩
   case round=>
    obtain⟨j,a1,c1,hj,rfl,rfl,HOut⟩:=hrel;have HBr:=htr HB1 HOut.out.bl;obtain⟨x0,x1,x2,xf,xlt⟩:=HX1.out.below HOut.out.bl;have hul:(zN x (G.units.take j)).length=k+j:=by
     rw[zdm,HNx.out,Z8,HNn.out];omega
    by_cases hlt:j<n
    ·obtain⟨bf,of,f,p0,p1,p2,p3,hbe,hbf,hfx,e0,e1,e2,e3,hfv⟩:=(HUs.out.below zaX HBr.out).pick (k:=j) XN;obtain⟨xa,xn,xc,xb,xan,xnn,xcn,xad,xnd,xcd,rfl,rfl,rfl,rfl⟩:=hfv.spell;have hbd:=HBu.out j f hfx;rw[HNi.out,<- hul]at hbd;have hXr:=HOut.out.rats (by rw[Zv,hul];omega);have hbV:BdL D2 B2 (zN x (G.units.take j)):=fun q hq=>HBx.out q (ziU j q hq)
     have HE:=hid (zqq c1 hfv.val hXr hul hbd hbV h2 (HP.out.mono (by rw[hul];omega)));obtain⟨P,hPq⟩:∃P,P=zK (zN x (G.units.take j)) f:=⟨_,rfl⟩
     rw[<- hPq]at HE;have hnew:zN x (G.units.take (j+1))=zN x (G.units.take j)++[zc7 P 0]:=by rw[zaG hfx,zfx,hPq]
     have hlP:zD (zc P) 524285:=by
      rw[hPq,<- zk5];exact Pay.b5 (D:=D1*D2) (B:=B1+2048*(B1*B2)+B1*B2+B2) HP.out ((Bd.parE hbd hbV h2 _).mono (by
       have h3:=hbd.few;rw[hul]at h3;have:=Zl (B1*B2) (show f.ts.length<=2048 from Ya);omega))
     obtain⟨HLP,HNew⟩:=hd2 hlP hnew;have HVl:Hid (((zN x (G.units.take j)).map zc).length=k+j):=by unfold Hid;rw[Zv,hul]
     have HUl:=hid hul;subst hbe;clear hfx hfv hbd hXr hbV hPq hnew hlP hul
     go_wp2_with fail
     refine HE.out.mono ?_
     rintro e w2 ⟨v2,rfl,hv2,hb2⟩;obtain⟨bn',bd',dn',dd',rfl,g2,g3,g4,g5⟩:=hv2.ex;have hal1:=blA w2 (.cells #[.bool (zc P).neg,.slice bn' (zc P).num.length dn',.slice bd' (zc P).den.length dd'] 51);obtain⟨HYb,HO2⟩:=hd2 (za4.alloc w2 (.bool (zc P).neg) (.slice bn' (zc P).num.length dn') (.slice bd' (zc P).den.length dd') 51) ((HOut.out.below hb2).below hal1);have hz:RatV (w2.alloc (.cells #[.bool (zc P).neg,.slice bn' (zc P).num.length dn',.slice bd' (zc P).den.length dd'] 51)) (.agg #[.bool false,.slice none 0 0,.slice none 0 0]) (zc 0):=by
      rw[zcz];exact⟨none,none,0,0,rfl,Za _,Za _,zw.nil _ _,zw.nil _ _⟩
     have hM:=zrB (hv2.below hal1) hz (HLP.out.mono Ya) zh8;rw[zH,zH]at hM;have HM:=hid hM;obtain⟨Q,hQ⟩:∃Q,Q=zc (zc7 P 0):=⟨_,rfl⟩
     rw[<- hQ]at HM;have HQ:=hid hQ;clear hv2 hb2 g4 g5 hal1 HE hz hM hQ e0 e1 e2 e3 hbf x0 x1 x2 xf xlt
     go_upto_region 12 with fail
     generalize w2.alloc (.cells #[.bool (zc P).neg,.slice bn' (zc P).num.length dn',.slice bd' (zc P).den.length dd'] 51)=w3 at *;obtain⟨y0,y1,y2,yf,ylt⟩:=HYb.out
     go_wp2_with fail
     refine HM.out.mono ?_
     rintro e w4 ⟨v4,rfl,hv4,hb4⟩;obtain⟨bn4,bd4,dn4,dd4,rfl,g2,g3,g4,g5⟩:=hv4.ex;have HRow:=hid (zj4.alloc g2 g3 g4 g5 51);have hal4:=blA w4 (zbb Q bn4 dn4 bd4 dd4 51);have HO4:=hid ((HO2.out.below hb4).below hal4);clear hv4 hb4 g4 g5 hal4 HM y0 y1 y2 yf ylt
     go_wp2_with (at_builtin;refine zd8 rfl (.tmp 52) (.tmp 56) 35 rfl w1.heap.size Tryz.underlying35 Tryz.infoRat (.slice a1 (k+j) c1) (k+j) _ HVl.out rfl HO4.out.own _ Q HRow.out rfl Ya HO4.out.bl.size ?_;intro b3 k3 w5 hown hk3 hg hbe hnx;have HPost:=hid (show zde w1 w5 (.slice b3 (k+j+1) k3) ((zN x (G.units.take j)).map zc++[Q])from⟨hown,HO4.out.bl.trans hbe⟩);clear hown hg hbe hnx)
     have HPost2:Hid (zde w1 w5 (.slice b3 (k+(j+1)) k3) ((zN x (G.units.take (j+1))).map zc)):=by
      unfold Hid;rw[HNew.out,Zay,Zbf,List.map_nil,<- HQ.out];exact HPost.out
     go_roundw
     case rel=>exact⟨j+1,b3,k3,hlt,by rw[Zat],Yg,HPost2.out⟩
     case measure=>simp[intOf];omega
    ·obtain rfl:j=n:=Ya;have hNP:zfB w (RR.map zc,0) (.returned (.tuple #[.slice a1 (k+j) c1,.int .i64 0])) wr:=by
      have h:=HOut.out;rw[ZM VI,<- HRR.out]at h;have hl:(RR.map zc).length=k+j:=by
       rw[ZM VI,<- HRR.out]at hul;rw[Zv,hul]
      obtain⟨a,c,e,h1,h2,h3⟩:=h.ret hl Ya HB1.out;injection e with e
      injection e with ea _ ec
      subst ea ec;exact⟨a1,c1,by rw[hl],h1,h2,h3⟩
     have HNP:=hid hNP;clear hNP hul;go_wp2;exact Zp (v:=.tuple #[.slice a1 (k+j) c1,.int .i64 0]) (by simp[results,Tryz.results69,go_sem]) rfl HNP.out
theorem zp2{nl:Nat}{al:Option Addr}{L:List zl}(cl cx:Nat)(hU:zaz w aU G.units)(hO:zaz w aO G.outs)(hX:zm w ax (x.map zc))(hnx:x.length=nx)(hni:G.inputs=nx)(hG:zsx G D1 B1)
 (bx:BdL D2 B2 (zN x G.units))(h2:0<D2)(hP:zmi D1 B1 D2 B2 2048)(hL:zaz w al L)(hnl:L.length=nl)(hnl2:nl<=1024)(bL:zcp D1 B1 (G.inputs+G.units.length) L):
  Calls Tryz.prog 40 #[.agg #[.int .i64 (nx:Int),.slice aU G.units.length cU,.slice aO G.outs.length cO],.slice al nl cl,.slice ax nx cx] w (zfB w ((L.map (zK (zN x G.units))).map zc,0)):=by
 have q3:=hG.u;have q2:=hG.i2;have hal:=blA w (.cells #[.int .i64 (nx:Int),.slice aU G.units.length cU,.slice aO G.outs.length cO] 30);have hx:=za4.alloc w (.int .i64 (nx:Int)) (.slice aU G.units.length cU) (.slice aO G.outs.length cO) 30;obtain⟨HVa,HLs,HNl,HAl,HX,HP⟩:=hd6 (zmT (cU:=cU) (cO:=cO) cx (hU.below zaX hal) (hO.below zaX hal) (hX.below hal) hnx hni hG bx h2 hP) hL hnl hal hx hP;have HBx:=hid bx;have hvl:(zN x G.units).length=G.inputs+G.units.length:=by rw[zdm,hnx,hni]
 rw[<- hvl]at bL;have HBl:=hid bL;have hvl2:(zN x G.units).length<=2048:=by rw[hvl];omega
 obtain⟨V,hV⟩:∃V,V=zN x G.units:=⟨_,rfl⟩
 rw[<- hV]at HVa HBl HBx hvl2⊢;obtain⟨nV,hnV⟩:∃nV,nV=V.length:=⟨_,rfl⟩
 have HNV:=hid hnV;rw[<- hnV]at hvl2;clear hal hx hU hO hX hG hP hnx hni bx hL hnl bL hvl hV hnV q2 q3
 go_enter Tryz.func40,Tryz.ntmps40
 go_upto_region 1 with fail
 generalize w.alloc (.cells #[.int .i64 (nx:Int),.slice aU G.units.length cU,.slice aO G.outs.length cO] 30)=W at *;obtain⟨x0,x1,x2,xf,xlt⟩:=HX.out
 go_wp2_with fail
 refine HVa.out.mono ?_
 rintro e w1 ⟨aV,cV,rfl,hcV,hV,hb1⟩;have hlv:(V.map zc,(0:Int)).1.length=nV:=by rw[Zv,HNV.out]
 have HB1:=htr HAl hb1;have HVr:=hid (show zm w1 aV (V.map zc)from hV);rw[hlv]at hcV⊢;simp only at hcV⊢;clear hb1 hV HVa x0 x1 x2 xf xlt hlv;go_wp2
 go_loopw [10,11] (fun v i wr=>∃(k:Nat) (a:Option Addr) (c:Nat),k<=nl/\v=.slice a k c/\i=.int .i64 (k:Int)/\Hid (zde w1 wr (.slice a k c) (((L.take k).map (zK V)).map zc))) (fun _ i _=>nl-(intOf i).toNat)
 case atStart=>exact⟨0,none,0,Zs _,rfl,rfl,zde.start w1⟩
 case round=>
  obtain⟨k,a0,c0,hk,rfl,rfl,HOut⟩:=hrel;have HBr:=htr HB1 HOut.out.bl
  by_cases hlt:k<nl
  ·obtain⟨bf,of,f,p0,p1,p2,p3,hbe,hbf,hfx,e0,e1,e2,e3,hfv⟩:=(HLs.out.below zaX HBr.out).pick (k:=k) (by rw[HNl.out];exact hlt);obtain⟨xa,xn,xc,xb,xan,xnn,xcn,xad,xnd,xcd,rfl,rfl,rfl,rfl⟩:=hfv.spell;have HE:=hid (zqq cV hfv.val (HVr.out.below HOut.out.bl) HNV.out.symm (HBl.out f (Zq hfx)) HBx.out h2 (HP.out.mono (by rw[<- HNV.out];exact hvl2)));obtain⟨P,hPq⟩:∃P,P=zK V f:=⟨_,rfl⟩
   rw[<- hPq]at HE;have HVl:Hid ((((L.take k).map (zK V)).map zc).length=k):=by unfold Hid;rw[Zv,Zv,Z8,HNl.out];omega
   have HSuc:Hid (((L.take k).map (zK V)).map zc++[zc P]=((L.take (k+1)).map (zK V)).map zc):=by
    unfold Hid;rw[zaG hfx,Zay,Zay,hPq];rfl
   subst hbe;clear hfx hfv hPq
   go_wp2_with fail
   refine HE.out.mono ?_
   rintro e w2 ⟨v2,rfl,hv2,hb2⟩;obtain⟨bn',bd',dn',dd',rfl,g2,g3,g4,g5⟩:=hv2.ex;have hal1:=blA w2 (.cells #[.bool (zc P).neg,.slice bn' (zc P).num.length dn',.slice bd' (zc P).den.length dd'] 51);obtain⟨HYb,HO2⟩:=hd2 (za4.alloc w2 (.bool (zc P).neg) (.slice bn' (zc P).num.length dn') (.slice bd' (zc P).den.length dd') 51) ((HOut.out.below hb2).below hal1);have hv3:=hv2.below hal1;obtain⟨G4,G5⟩:=hd2 (g4.below hal1) (g5.below hal1);clear hv2 hb2 g4 g5 hal1 HE e0 e1 e2 e3 hbf hv3
   go_upto_region 9 with fail
   generalize w2.alloc (.cells #[.bool (zc P).neg,.slice bn' (zc P).num.length dn',.slice bd' (zc P).den.length dd'] 51)=w3 at *;obtain⟨y0,y1,y2,yf,ylt⟩:=HYb.out;have HRow:=hid (zj4.alloc g2 g3 G4.out G5.out 51);have hal4:=blA w3 (.cells #[.bool (zc P).neg,.slice bn' (zc P).num.length dn',.slice bd' (zc P).den.length dd'] 51);have HO4:=hid (HO2.out.below hal4);clear hal4
   go_wp2_with (at_builtin;refine zd8 rfl (.tmp 38) (.tmp 40) 35 rfl w1.heap.size Tryz.underlying35 Tryz.infoRat (.slice a0 k c0) k _ HVl.out rfl HO4.out.own _ (zc P) HRow.out rfl Ya HO4.out.bl.size ?_;intro b3 k3 w5 hown hk3 hg hbe hnx;have HPost:=hid (show zde w1 w5 (.slice b3 (k+1) k3) (((L.take k).map (zK V)).map zc++[zc P])from⟨hown,HO4.out.bl.trans hbe⟩);clear hown hg hbe hnx)
   exact EP
  ·obtain rfl:k=nl:=Ya;have hNP:zfB w ((L.map (zK V)).map zc,0) (.returned (.tuple #[.slice a0 k c0,.int .i64 0])) wr:=by
    have h:=HOut.out;rw[ZM (by rw[HNl.out];exact Za _)]at h;have hl:((L.map (zK V)).map zc).length=k:=by rw[Zv,Zv,HNl.out]
    obtain⟨a,c,e,h1,h2,h3⟩:=h.ret hl Ya HB1.out;injection e with e
    injection e with ea _ ec
    subst ea ec;exact⟨a0,c0,by rw[hl],h1,h2,h3⟩
   have HNP:=hid hNP;clear hNP;go_wp2;exact Zp (v:=.tuple #[.slice a0 k c0,.int .i64 0]) (by simp[results,Tryz.results40,go_sem]) rfl HNP.out
theorem zma{no:Nat}(cx:Nat)(hU:zaz w aU G.units)(hO:zaz w aO G.outs)(hX:zm w ax (x.map zc))(hnx:x.length=nx)(hni:G.inputs=nx)(hno:G.outs.length=no)(hG:zsx G D1 B1)
 (bx:BdL D2 B2 (zN x G.units))(h2:0<D2)(hP:zmi D1 B1 D2 B2 2048):
  Calls Tryz.prog 17 #[.agg #[.int .i64 (nx:Int),.slice aU G.units.length cU,.slice aO no cO],.slice ax nx cx] w (zfB w ((G.outs.map (zK (zN x G.units))).map zc,0)):=by
 have q2:=hG.o2;have hal:=blA w (.cells #[.int .i64 (nx:Int),.slice aU G.units.length cU,.slice aO no cO] 30);have hx:=za4.alloc w (.int .i64 (nx:Int)) (.slice aU G.units.length cU) (.slice aO no cO) 30;have hF:=zp2 (cU:=cU) (cO:=cO) cO cx (hU.below zaX hal) (hO.below zaX hal) (hX.below hal) hnx hni hG bx h2 hP (hO.below zaX hal) hno Ya hG.bo;rw[hno]at hF;obtain⟨HF,HAl,HX⟩:=hd3 hF hal hx;generalize(G.outs.map (zK (zN x G.units))).map zc=RR at *;clear hal hx hU hO hX hG hP hnx hni hno bx hF q2
 go_enter Tryz.func17,Tryz.ntmps17
 go_upto_region 1 with fail
 generalize w.alloc (.cells #[.int .i64 (nx:Int),.slice aU G.units.length cU,.slice aO no cO] 30)=W at *;obtain⟨x0,x1,x2,xf,xlt⟩:=HX.out
 go_wp2_with fail
 refine HF.out.mono ?_
 rintro e w1 ⟨a,c,rfl,hc,hR,hb⟩;have HB:=htr HAl hb;have HR:=hid (show zm w1 a RR from hR);generalize hn:RR.length=n at *;have HN:=hid hn;clear hb hR hn HF;go_wp2
 refine Zp (v:=.tuple #[.slice a n c,.int .i64 0]) (by simp[results,Tryz.results17,go_sem]) rfl ?_
 exact⟨a,c,by rw[HN.out],by rw[HN.out];exact hc,HR.out,HB.out⟩
theorem zr7{a1 a2:Option Addr}(c1 c2 cx:Nat)(h1:zah w Any a1 m.input)(h2:zaK w a2 m.layers)(hcap:zqO w a2 m.layers)(hr:∀l∈m.layers,zQ l)(hs:∀l∈m.layers,zbF l)
 (hX:zm w ax (x.map zc))(hsm:∀l∈m.layers,zbN l)(hxB:BdL D B x)(hD:0<D)(hB:1<=B)(hl12:m.layers.length<=12)(hroom:zdz 12 D B)(hxl:x.length<=1000000)(htl:∀l∈(zcv m x).1,l.length<=1000000):
  Calls Tryz.prog 16 #[.agg #[.slice a1 m.input.length c1,.slice a2 m.layers.length c2],.slice ax x.length cx] w (zfB w (zsJ m x)):=by
 have hal0:=blA w (.cells #[.slice a1 m.input.length c1,.slice a2 m.layers.length c2] 25);obtain⟨HTr,HX,Htl⟩:=hd3 (zpf c1 c2 cx (h1.below hal0) (h2.below hal0) (hcap.below h2 hal0) hr hs (hX.below hal0) hsm hxB hD hB hl12 hroom) hX htl;have hx:=za1.alloc w (.slice a1 m.input.length c1) (.slice a2 m.layers.length c2) 25;generalize hRR:zsJ m x=RR;unfold zsJ at hRR;obtain⟨HR,HB0⟩:=hd2 hRR hal0;clear h1 h2 hcap hr hs hX hsm hxB hroom htl hRR hal0
 go_enter Tryz.func16,Tryz.ntmps16
 go_upto_region 1 with fail
 generalize w.alloc (.cells #[.slice a1 m.input.length c1,.slice a2 m.layers.length c2] 25)=W at *;obtain⟨x0,x1,xf,xlt⟩:=hx
 go_wp2_with fail
 refine HTr.out.mono ?_
 rintro e w1 ⟨aT,cT,rfl,hcT,hrows,hb⟩;obtain⟨TT,hTT⟩:∃TT,TT=zcv m x:=⟨_,rfl⟩
 rw[<- hTT]at HR Htl hcT hrows⊢;have HRw:=hid hrows;have HB1:=htr HB0 hb;obtain⟨nT,hnT⟩:∃nT,nT=TT.1.length:=⟨_,rfl⟩
 have hTlen:nT<=9223372036854775807:=by rw[hnT];exact hrows.len
 rw[<- hnT]at hcT⊢;have HNT:=hid hnT;generalize her:TT.2=er at *;clear hb hTT hrows hnT HTr x0 x1 xf xlt
 by_cases he:er=0
 ·subst he
  by_cases hz:nT=0
  ·have hRe:RR=(x.map zc,0):=by
    rw[<- HR.out,Zm rfl,Zy (HNT.out.symm.trans hz)];rfl
   subst hz;obtain⟨news,hsrc,hnews⟩:=(HX.out.below HB1.out).srcE;rw[Zv]at hsrc;have hal:=blA w1 (.cells #[] 51);obtain⟨HSrc,HNw,HAl,HRe⟩:=hd4 (hsrc.below hal) hnews hal hRe;have HEm:Hid ((w1.alloc (.cells #[] 51)).ownsRow w1.heap.size 51 3 (.slice (some ⟨w1.heap.size,0,none⟩) 0 0) 0 []):=zea (zlL w1 _) (Za _);clear hsrc hnews hal hRe
   go_wp2_with (at_builtin;refine zaa rfl (.tmp 20) (.tmp 21) 35 35 rfl w1.heap.size 51 (.agg #[.bool false,.slice none 0 0,.slice none 0 0]) 3 56 Tryz.underlying35 Tryz.underlying35 Tryz.infoRat rfl Ya _ 0 [] rfl HEm.out ax x.length cx news rfl HSrc.out Ya Yf Yc ?_;intro v' w' hown hg hnx;have HOwn:=hid hown;have HBg:=hid (HAl.out.grown hg HAl.out.size (fun j hj=>(HEm.out.lt j hj).1));clear hown hg hnx)
   obtain⟨a,c,hv,hc,hR⟩:=znl (wa:=w1) (a:=none) (L:=x.map zc) (by rw[Zv]) Ya HBg.out HNw.out HOwn.out
   refine Zp (zc4 rfl _ _ _) rfl ?_
   rw[HRe.out]
   refine⟨a,c,?_,hc,hR,HB1.out.trans (HBg.out.mono HB1.out.size)⟩
   rw[hv];rfl
  ·obtain⟨i,hi⟩:∃i,nT=i+1:=⟨nT-1,Ya⟩
   obtain⟨bY,oY,l,ay,cy,haY,yc0,hYi,hyc,hRy,hbY⟩:=HRw.out.pick (k:=i) (by rw[<- HNT.out];omega);have hRe:RR=(l,0):=by
    rw[<- HR.out,Zm rfl,Zah,<- HNT.out,hi,show i+1-1=i from Ya,hYi];rfl
   have hll:=Htl.out l (Zq hYi);subst haY;obtain⟨nl,hnl⟩:∃nl,nl=l.length:=⟨_,rfl⟩
   rw[<- hnl]at yc0 hyc hll;obtain⟨HRe,HNl,HRy⟩:=hd3 hRe hnl hRy;have q1:decide (nT=0)=false:=Zj hz;have q2:((nT:Int)==0)=false:=bn0 Ya;have m0:(nT:Int)-1=(i:Int):=Ya;have hin:i<nT:=Ya;clear hRe hnl hYi hRy hi;go_wp2
   refine Zp (v:=.tuple #[.slice ay nl cy,.int .i64 0]) Ve rfl ?_
   rw[HRe.out];exact⟨ay,cy,by rw[HNl.out],by rw[<- HNl.out];exact hyc,HRy.out,HB1.out⟩
 ·have t1:(er != 0)=true:=Y2;have hRe:RR=([],er):=by rw[<- HR.out,Zg he]
  have HF:=hid hRe;clear he hRe;go_wp2
  refine Zp (zc4 rfl _ _ _) rfl ?_
  rw[HF.out];exact⟨none,0,rfl,Za _,⟨Yc,.inl rfl⟩,HB1.out⟩
structure UnB (x:List Rat) (D1 C1 D2 C2 N:Nat) (U:List zl):Prop where
 good:zdA x.length U
 bu:zcp D1 C1 N U
 ev:BdL D2 C2 (zN x U)
theorem UnB.mono{C1' C2':Nat}(h:UnB x D1 C1 D2 C2 N U)(h1:C1<=C1')(h2:C2<=C2'):UnB x D1 C1' D2 C2' N U:=⟨h.good,h.bu.mono h1 (Za _),h.ev.mono h2⟩
theorem UnB.bump{k1 k2:Nat}(h:UnB x D1 C1 D2 C2 N U)(h1:0<k1)(h2:0<k2):UnB x (D1*k1) C1 (D2*k2) C2 N U:=⟨h.good,h.bu.bump h1,h.ev.bump h2⟩
theorem UnB.snoc(h:UnB x D1 C1 D2 C2 N U)(hc:f.Can)(hb:zfn (x.length+U.length) f)(hf:BdF D1 C1 N f)(hv:Bd D2 C2 (zK (zN x U) f))(h0:0<D2):UnB x D1 C1 D2 C2 N (U++[f]):=by
 refine⟨h.good.snoc hc hb,h.bu.snoc hf,?_⟩
 rw[zfx];intro q hq
 rcases Zar.1 hq with hq|hq
 ·exact h.ev q hq
 ·rw[List.mem_singleton]at hq;rw[hq];exact hv.maxQ (Bd.zero h0)
theorem zor{l:List Rat}(h:BdL D B l)(hD:0<D):Bd D B (zdV l):=Bd.pmax h hD _
theorem UnB.great{x:List Rat}{D1 B1 e D2 B2 N:Nat}(hD1:0<D1)(hB1:1<=B1)(hD2:0<D2):∀(fuel:Nat) (U l:List zl),UnB x D1 (2*(B1+e)) D2 (2*B2) N U->zbk (x.length+U.length) l->zcp D1 B1 N l->BdL D2 B2 (l.map (zK (zN x U)))->fuel<=e->1<=l.length->l.length<=fuel->x.length+U.length+(l.length-1)<=N->
  UnB x D1 (2*(B1+e)) D2 (2*B2) N (zZ x.length fuel U l).1
 | 0,U,l,_,_,_,_,_,h1,h2,_=>by omega
 | fuel+1,U,l,hU,hl,hb,hv,he,h1,h2,hN=>by
  by_cases k:l.length=1
  ·rw[zcA k];exact hU
  ·obtain⟨h,hh⟩:∃h,h=(l.length+1)/2:=⟨_,rfl⟩
   have lt:(l.take h).length=h:=Yy;have ld:(l.drop h).length=l.length-h:=Za6;have hlT:zbk (x.length+U.length) (l.take h):=fun f hf=>hl f (ZT hf)
   obtain⟨a1,a2,a3,a4⟩:=zeg x fuel U (l.take h) hU.good hlT Ya Ya;obtain⟨V1,e1⟩:=zaO x.length fuel U (l.take h);have c1:=zax x.length fuel U (l.take h) Ya Ya;have ih1:=UnB.great (e:=e) hD1 hB1 hD2 fuel U (l.take h) hU hlT (fun f hf=>hb f (ZT hf)) (fun q hq=>hv q (by
    obtain⟨f,hf,rfl⟩:=ZP.1 hq;exact List.mem_map_of_mem (ZT hf))) Ya Ya Ya Ya
   have bd1:=(BdF.great hD1 hB1 x.length fuel e U (l.take h) (fun f hf=>hb f (ZT hf)) Ya Ya Ya Ya hU.bu).2;obtain⟨p1,hp1⟩:∃p,p=zZ x.length fuel U (l.take h):=⟨_,rfl⟩
   rw[<- hp1]at a1 a2 a3 a4 e1 c1 ih1 bd1;obtain⟨U1,a⟩:=p1;simp only at a1 a2 a3 a4 e1 c1 ih1 bd1;have hl2:zbk (x.length+U1.length) (l.drop h):=fun f hf=>⟨(hl f (ZX hf)).1,(hl f (ZX hf)).2.mono VC⟩
   have hvD:BdL D2 B2 ((l.drop h).map (zK (zN x U1))):=by
    rw[e1,ze5 (fun f hf=>hl f (ZX hf))];intro q hq;obtain⟨f,hf,rfl⟩:=ZP.1 hq;exact hv _ (List.mem_map_of_mem (ZX hf))
   obtain⟨b1,b2,b3,b4⟩:=zeg x fuel U1 (l.drop h) a1 hl2 Ya Ya;obtain⟨V2,e2⟩:=zaO x.length fuel U1 (l.drop h);have c2:=zax x.length fuel U1 (l.drop h) Ya Ya;have ih2:=UnB.great (e:=e) hD1 hB1 hD2 fuel U1 (l.drop h) ih1 hl2 (fun f hf=>hb f (ZX hf)) hvD Ya Ya Ya Ya;have bd2:=(BdF.great hD1 hB1 x.length fuel e U1 (l.drop h) (fun f hf=>hb f (ZX hf)) Ya Ya Ya Ya ih1.bu).2;obtain⟨p2,hp2⟩:∃p,p=zZ x.length fuel U1 (l.drop h):=⟨_,rfl⟩
   rw[<- hp2]at b1 b2 b3 b4 e2 c2 ih2 bd2;obtain⟨U2,b⟩:=p2;simp only at b1 b2 b3 b4 e2 c2 ih2 bd2;rw[zb6 (U1:=U1) (U2:=U2) (a:=a) (b:=b) Ya JH JI];have a3':zfn (x.length+U2.length) a:=a3.mono VD;show UnB x D1 (2*(B1+e)) D2 (2*B2) N (U2++[zbi (-1) b a])
   refine ih2.snoc (zbf _ _ _) (zcJ b3 a3') ((bd2.sub bd1).mono Ya (Za _)) ?_ hD2
   have ea:zK (zN x U2) a=zdV ((l.take h).map (zK (zN x U))):=by
    rw[e2,zcK a3];exact a4
   rw[zcl _ (-1) b2 a2,zdF,ea,b4];have va:BdL D2 B2 ((l.take h).map (zK (zN x U))):=fun q hq=>by
    obtain⟨f,hf,rfl⟩:=ZP.1 hq;exact hv _ (List.mem_map_of_mem (ZT hf))
   have:=(zor hvD hD2).sub (zor va hD2);rw[show 2*B2=B2+B2 from Ya];exact this
theorem zfL{β:Type}{f:List zl->β->List zl×zl}{n N:Nat}{P:List zl->Prop}(happ:∀U b,∃V,(f U b).1=U++V):∀(l:List β) (U:List zl),(∀U b,b∈l->P U->n+(f U b).1.length<=N->P (f U b).1)->P U->n+(z7 f l U).1.length<=N->P (z7 f l U).1
 | [],U,_,hU,_=>hU
 | b::r,U,h,hU,hN=>by
  have hN':n+(z7 f r (f U b).1).1.length<=N:=hN;obtain⟨V,e⟩:=zfI happ r (f U b).1;exact zfL happ r (f U b).1 (fun U x hx=>h U x (ZaP _ hx)) (h U b Zal hU JM) hN'
theorem zmW{x:List Rat}{U:List zl}{l:zac}{s:List Int}{X fr:List zl}{D1 B1 D2 B2 N:Nat}(hU:UnB x D1 B1 D2 B2 N U)(hX:zbk (x.length+U.length) X)(hbX:zcp D1 B1 N X)(hvX:BdL D2 B2 (X.map (zK (zN x U))))(hf:zqK l s)(hD1:0<D1)(hB1:1<=B1)(hD2:0<D2)
 (hN:x.length+(z8 x.length U l s X fr).1.length<=N):UnB x D1 (2*(B1+262144)) D2 (2*B2) N (z8 x.length U l s X fr).1:=by
 have stay:UnB x D1 (2*(B1+262144)) D2 (2*B2) N U:=hU.mono Ya Ya;unfold z8 at hN⊢
 by_cases k1:l.kind=1
 ·rw[Zm k1];exact stay
 rw[Zg k1]at hN⊢
 by_cases k2:l.kind=2
 ·rw[Zm k2];exact stay
 rw[Zg k2]at hN⊢
 by_cases k3:l.kind=3
 ·rw[Zm k3]at hN⊢
  cases hf with
  | pool q hk hq ht hs e1 e2 e3 e4 hp hwl hz=>
   rw[hwl]at hN⊢;have hC:(s.getD 0 0).toNat=q.C:=VV;have hn:l.kh.toNat*l.kw.toNat=q.kh*q.kw:=Jj;have hlen:=zej (q:=q) hC hn;have hpos:1<=q.kh*q.kw:=Zak hq.kh1 hq.kw1;have hbd:=Win.len_bd hq ht;rw[q.one_len]at hbd;have hkl:q.kh*q.kw<=262144:=Zi (Zad _ hq.c1) hbd.2.1;have hr:=zfL (f:=fun U g=>zZ x.length g.length U (zba g X)) (n:=x.length) (N:=N) (P:=fun U'=>(∃W,U'=U++W)/\UnB x D1 (2*(B1+262144)) D2 (2*B2) N U') (fun U b=>zaO _ _ _ _) (zcH (s.getD 0 0).toNat (l.kh.toNat*l.kw.toNat) q.all) U (fun U' g hg hP hN2=>by
    obtain⟨⟨W,hW⟩,hB⟩:=hP;have hgl:=hlen g hg;have hvl:=zaP g X;rw[zax x.length g.length U' (zba g X) Ya Ya]at hN2;have hX':zbk (x.length+U'.length) X:=hX.mono Xu;obtain⟨V,hV⟩:=zaO x.length g.length U' (zba g X)
    refine⟨⟨W++V,by rw[hV,hW,ZW]⟩,?_⟩
    refine UnB.great (e:=262144) hD1 hB1 hD2 g.length U' (zba g X) hB (zfl hX' g) (hbX.vals hD1 g) ?_ Ya Ya Ya Ya
    rw[ziO,hW,ze5 hX];exact hvX.vals hD2 g) ⟨⟨[],XK⟩,stay⟩ hN
   exact hr.2
  | dense R hk=>omega
  | conv q O hk=>omega
  | keep hk=>omega
  | add hk=>omega
 rw[Zg k3]at hN⊢
 by_cases k4:l.kind=4
 ·rw[Zm k4];exact stay
 rw[Zg k4]at hN⊢
 by_cases k5:l.kind=5
 ·rw[Zm k5]at hN⊢;have hr:=zfL (f:=zcr x.length) (n:=x.length) (N:=N) (P:=fun U'=>(∃W,U'=U++W)/\UnB x D1 (2*(B1+262144)) D2 (2*B2) N U') (fun U b=>zi9 _ _ _) X U (fun U' f hf hP _=>by
   obtain⟨⟨W,hW⟩,hB⟩:=hP
   refine⟨⟨W++[f],by show U'++[f]=_;rw[hW,ZW]⟩,?_⟩
   show UnB x D1 (2*(B1+262144)) D2 (2*B2) N (U'++[f])
   refine hB.snoc (hX f hf).1 ((hX f hf).2.mono Xu) ((hbX f hf).mono Ya (Za _)) ?_ hD2
   rw[hW,zcK (hX f hf).2];exact(hvX _ (List.mem_map_of_mem hf)).mono Ya) ⟨⟨[],XK⟩,stay⟩ hN
  exact hr.2
 rw[Zg k5]at hN⊢
 by_cases k7:l.kind=7
 ·rw[Zm k7];exact stay
 rw[Zg k7];exact stay
structure LoV (x:List Rat) (input:List Int) (S:List (List Int)) (U:List zl) (YF:List (List zl)) (YQ:List (List Rat)) (D1 B1 D2 B2 N:Nat):Prop where
 lo:zhs x input S U YF YQ
 lw:LwQ x.length input S U YF D1 B1 N
 tr:TrI input x S YQ D2 B2
 un:UnB x D1 B1 D2 B2 N U
theorem LoV.start(h:(x.length:Int)=zt input)(hx:BdL D2 B2 x)(h1:0<D2)(h2:1<=B2)(hN:x.length<=N):LoV x input [] [] [] [] 1 1 D2 B2 N:=
 ⟨zhs.start h,LwQ.start h hN,⟨rfl,Yc,h,h1,h2,hx,Yc⟩,⟨zdA.nil _,zcp.nil _ _ _,hx⟩⟩
theorem LoV.step{S:List (List Int)}{YF:List (List zl)}{YQ:List (List Rat)}{l:zac}(h:LoV x input S U YF YQ D1 B1 D2 B2 N)(hl:(zL input S l).2=0)(hs:zbN l)(hv:zk (zh input S)=true)
 (hN:x.length+(z8 x.length U l (zh input S) (zat (zq x.length) YF) (zaS (zq x.length) YF l.frm)).1.length<=N):
  ∃k1 k2,k1<=WQ/\k2<=WQ/\LoV x input (S++[(zL input S l).1]) (z8 x.length U l (zh input S) (zat (zq x.length) YF) (zaS (zq x.length) YF l.frm)).1 (YF++[(z8 x.length U l (zh input S) (zat (zq x.length) YF) (zaS (zq x.length) YF l.frm)).2])
   (YQ++[zgx l (zh input S) (zbj x YQ) (zbE x YQ l.frm)]) (D1*k1) (9671406556917033397649408*B1) (D2*k2) (9671406556917033397649408*B2) N:=by
 obtain⟨k1,a1,a2,a3⟩:=h.lw.step hl hs hv hN;obtain⟨k2,b1,b2,b3⟩:=h.tr.step hl hs hv;have hB1:=h.lw.hB;have hB2:=h.tr.hB;obtain⟨c1,c2⟩:=h.lo.curr;have hun:=zmW (fr:=zaS (zq x.length) YF l.frm) h.un c1 h.lw.curr.2 (by rw[c2];exact h.tr.curr.2) (zev hl).1 h.lw.hD hB1 h.tr.hD hN
 refine⟨k1,k2,a2,b2,h.lo.step hl,a3,b3,(hun.bump a1 b1).mono Ya Ya⟩
theorem zlb{x:List Rat}{input:List Int}{N:Nat}:∀{L:List zac} {S T:List (List Int)} {U:List zl} {YF:List (List zl)} {YQ:List (List Rat)} {D1 B1 D2 B2:Nat},LoV x input S U YF YQ D1 B1 D2 B2 N->zdQ input S T L->(∀l∈L,zbN l)->x.length+(z6 x.length input (zq x.length) S YF U L).1.length<=N->
  ∃D1' D2',D1'<=D1*WQ^L.length/\D2'<=D2*WQ^L.length/\LoV x input (S++T) (z6 x.length input (zq x.length) S YF U L).1 (z6 x.length input (zq x.length) S YF U L).2 (zaN input x S YQ L) D1' (9671406556917033397649408^L.length*B1) D2' (9671406556917033397649408^L.length*B2) N
 | [],S,T,U,YF,YQ,D1,B1,D2,B2,h,hc,_,_=>by
  have:T=[]:=Zy hc.1;subst this
  refine⟨D1,D2,Yc,Yc,?_⟩
  rw[ZaK,Zax,Nat.pow_zero,Zao,Zao];exact h
 | l::r,S,T,U,YF,YQ,D1,B1,D2,B2,h,hc,hs,hN=>by
  obtain⟨s,T',rfl,ho,hc'⟩:=hc.head;have e:(zL input S l).1=s:=Jm;have hN':x.length+(z6 x.length input (zq x.length) (S++[(zL input S l).1]) (YF++[(z8 x.length U l (zh input S) (zat (zq x.length) YF) (zaS (zq x.length) YF l.frm)).2]) (z8 x.length U l (zh input S) (zat (zq x.length) YF) (zaS (zq x.length) YF l.frm)).1 r).1.length<=N:=hN;obtain⟨V,hV⟩:=zdx (nI:=x.length) (input:=input) (x:=zq x.length) (L:=r) (S:=S++[(zL input S l).1]) (Y:=YF++[(z8 x.length U l (zh input S) (zat (zq x.length) YF) (zaS (zq x.length) YF l.frm)).2]) (U:=(z8 x.length U l (zh input S) (zat (zq x.length) YF) (zaS (zq x.length) YF l.frm)).1);have hN1:=hN';rw[hV,ZE]at hN1;obtain⟨k1,k2,w1,w2,hst⟩:=h.step (l:=l) Jm (hs l Yc) (zh3 Jm) Ya;rw[e]at hst hN';obtain⟨D1',D2',d1,d2,hr⟩:=zlb hst hc' (fun l hl=>hs l (by simp[hl])) hN'
  refine⟨D1',D2',?_,?_,?_⟩
  ·rw[ZH,Zas]
   refine Zi d1 ?_
   rw[show D1*(WQ^r.length*WQ)=D1*WQ*WQ^r.length by ac_rfl];exact Zl _ (ZQ _ w1)
  ·rw[ZH,Zas]
   refine Zi d2 ?_
   rw[show D2*(WQ^r.length*WQ)=D2*WQ*WQ^r.length by ac_rfl];exact Zl _ (ZQ _ w2)
  ·rw[ZW]at hr;have e1:∀B:Nat,9671406556917033397649408^(l::r).length*B=9671406556917033397649408^r.length*(9671406556917033397649408*B):=fun B=>by rw[ZH,Zas,ZL]
   rw[e1,e1];show LoV x input (S++s::T') (z6 x.length input (zq x.length) (S++[(zL input S l).1]) (YF++[(z8 x.length U l (zh input S) (zat (zq x.length) YF) (zaS (zq x.length) YF l.frm)).2]) (z8 x.length U l (zh input S) (zat (zq x.length) YF) (zaS (zq x.length) YF l.frm)).1 r).1
    (z6 x.length input (zq x.length) (S++[(zL input S l).1]) (YF++[(z8 x.length U l (zh input S) (zat (zq x.length) YF) (zaS (zq x.length) YF l.frm)).2]) (z8 x.length U l (zh input S) (zat (zq x.length) YF) (zaS (zq x.length) YF l.frm)).1 r).2
    (zaN input x (S++[(zL input S l).1]) (YQ++[zgx l (zh input S) (zbj x YQ) (zbE x YQ l.frm)]) r) D1' _ D2' _ N
   rw[e];exact hr
theorem zq4(M C q p a b u c:Nat)(hM:2<=M)(hC:C<=M^3){U:Nat}(h1:D1<=(M^p)^q)(h2:D2<=W*(M^p)^q)(hW:W<=M^a)(hU:U<=M^u)(hB:B2<=C^q*U)(hb:3*q+(3*q+u)+4<=b)(hc:b+(p*q+(a+p*q))+2<=c)(hM2:4096<=M):
  (C^q+2048*(C^q*B2)+C^q*B2+B2)*(D1*D2)+D1*D2<M^c:=by
 have e1:C^q<=M^(3*q):=zm7 hC q;have e2:B2<=M^(3*q+u):=Zi hB (by rw[Z9];exact ZY e1 hU);have e3:C^q*B2<=M^(3*q+(3*q+u)):=by rw[Z9 M (3*q)];exact ZY e1 e2
 have m1:M^(3*q)<=M^(3*q+(3*q+u)):=Zt Ya Ya;have m2:M^(3*q+u)<=M^(3*q+(3*q+u)):=Zt Ya Ya;have m3:M^(3*q+(3*q+u))*M<=M^b:=by
  rw[<- Zas];exact Zt Ya Ya
 have m4:M^(3*q+(3*q+u))*4096<=M^(3*q+(3*q+u))*M:=ZQ _ hM2;have hB':C^q+2048*(C^q*B2)+C^q*B2+B2<=M^b:=Ya;have d1:D1<=M^(p*q):=by rw[Nat.pow_mul];exact h1
 have d2:D2<=M^(a+p*q):=Zi h2 XM;have d3:D1*D2<=M^(p*q+(a+p*q)):=by rw[Z9 M (p*q)];exact ZY d1 d2
 exact zkQ M hM hc hB' d3
theorem zpC(h:zch m=(G,0))(hx:(x.length:Int)=zt m.input)(hs:∀l∈m.layers,zbN l)(hl:m.layers.length<=12)(hW:W<=4294967296^30)(hW0:0<W)(bx:BdL W 18446744073709551616 x):
  ∃D1 B1 D2 B2,zsx G D1 B1/\BdL D2 B2 (zN x G.units)/\0<D2/\zmi D1 B1 D2 B2 2048:=by
 obtain⟨i1,i2,i3,i4,i5,i6⟩:=zmw h;obtain⟨hgU,hgO,hgi,hgv⟩:=zhF h hx;unfold zch at h
 by_cases h0:(zI m).2.2=0
 ·rw[Zm h0]at h
  split at h
  ·simp[zed]at h
  ·obtain⟨T,hF⟩:=zoB (m:=m) [] h0;have hn:(zt m.input).toNat=x.length:=Ya;rw[hn]at h;have hG:G=⟨x.length,(z6 x.length m.input (zq x.length) [] [] [] m.layers).1,zat (zq x.length) (z6 x.length m.input (zq x.length) [] [] [] m.layers).2⟩:=(congrArg Prod.fst h).symm;obtain⟨D1,D2,d1,d2,hV⟩:=zlb (N:=x.length+G.units.length) (LoV.start hx bx hW0 Ya Ya) hF.ch hs (by rw[hG];exact Za _);rw[Zao]at d1;rw[Zba]at hV;have hbU:zcp D1 (9671406556917033397649408^m.layers.length) (x.length+G.units.length) G.units:=by
    have:=hV.un.bu;rw[hG]at this⊢;exact this
   have hbO:zcp D1 (9671406556917033397649408^m.layers.length) (x.length+G.units.length) G.outs:=by
    have:=hV.lw.curr.2;rw[hG]at this⊢;exact this
   have hbE:BdL D2 (9671406556917033397649408^m.layers.length*18446744073709551616) (zN x G.units):=by
    have:=hV.un.ev;rw[hG];exact this
   refine⟨D1,_,D2,_,⟨i2,i3,i4,i5,i6,fun j f hj=>?_,by rw[hgi];exact hbO⟩,hbE,hV.tr.hD,?_⟩
   ·have hb:=hbU f (Zq hj);exact⟨hb.can,by rw[hgi];exact(hgU j f hj).2,hb.c,hb.t⟩
   ·obtain⟨p,hp,e⟩:=zqi;have hWQ:WQ^m.layers.length<=WQ^12:=Zt zcD hl;rw[e]at hWQ d1 d2;have hq:9671406556917033397649408^m.layers.length<=9671406556917033397649408^12:=Zt Ya hl;unfold zmi
    refine Pay.le (D:=D1*D2) (B:=9671406556917033397649408^12+2048*(9671406556917033397649408^12*(9671406556917033397649408^12*18446744073709551616))+9671406556917033397649408^12*(9671406556917033397649408^12*18446744073709551616)+9671406556917033397649408^12*18446744073709551616) ?_ (Za _) ?_
    ·unfold Pay;have hc:80+(p*12+(30+p*12))+2<=524285:=Ya;generalize(524285:Nat)=c at hc⊢;exact zq4 4294967296 9671406556917033397649408 12 p 30 80 2 c Ya Yd (Zi d1 hWQ) (Zi d2 (ZQ _ hWQ)) hW (U:=18446744073709551616) Yd (Za _) Ya hc Ya
    ·generalize 9671406556917033397649408^m.layers.length=A at hq⊢;generalize 9671406556917033397649408^12=B at hq⊢;have m1:A*18446744073709551616<=B*18446744073709551616:=Zl _ hq;have m2:A*(A*18446744073709551616)<=B*(B*18446744073709551616):=ZY hq m1;omega
 exact Im
theorem zjX{w:World}{p q:zaf}{an ad bn bd:Option Addr}{cn cd dn dd:Nat}(b2:p.num.length<=cn)(b3:p.den.length<=cd)(b4:zw w an p.num)(b5:zw w ad p.den)(g2:q.num.length<=dn)(g3:q.den.length<=dd)(g4:zw w bn q.num)(g5:zw w bd q.den)(T:Nat):
  zm (w.alloc (.cells #[.bool p.neg,.slice an p.num.length cn,.slice ad p.den.length cd,.bool q.neg,.slice bn q.num.length dn,.slice bd q.den.length dd] T)) (some ⟨w.heap.size,0,none⟩) [p,q]:=by
 have hal:=blA w (.cells #[.bool p.neg,.slice an p.num.length cn,.slice ad p.den.length cd,.bool q.neg,.slice bn q.num.length dn,.slice bd q.den.length dd] T)
 refine⟨Yc,.inr ⟨w.heap.size,0,rfl,Yc,fun j x hj=>?_⟩⟩
 match j,hj with
 | 0,hj=>
  exact TQ
 | 1,hj=>
  simp at hj;subst hj;exact⟨bn,bd,dn,dd,by rw[World.cell?_alloc_at _ _ _ _ rfl];rfl,by rw[World.cell?_alloc_at _ _ _ _ rfl];rfl,by rw[World.cell?_alloc_at _ _ _ _ rfl];rfl,⟨bn,bd,dn,dd,rfl,g2,g3,g4.below hal,g5.below hal⟩⟩
theorem zkf{w:World}{p:zaf}{an ad:Option Addr}{cn cd:Nat}(b2:p.num.length<=cn)(b3:p.den.length<=cd)(b4:zw w an p.num)(b5:zw w ad p.den)(T:Nat):
  zm (w.alloc (.cells #[.bool p.neg,.slice an p.num.length cn,.slice ad p.den.length cd] T)) (some ⟨w.heap.size,0,none⟩) [p]:=by
 have hal:=blA w (.cells #[.bool p.neg,.slice an p.num.length cn,.slice ad p.den.length cd] T)
 refine⟨Yc,.inr ⟨w.heap.size,0,rfl,Yc,fun j x hj=>?_⟩⟩
 match j,hj with
 | 0,hj=>
  exact TQ
theorem zrZ{w w1 w2:World}{p q:zaf}{an ad bn bd:Option Addr}{cn cd dn dd:Nat}(hp:p=zc 1)(hq:q=zc (-1))(kb1:Below (w.alloc (.cells #[.int .i64 2] 3)).heap.size (w.alloc (.cells #[.int .i64 2] 3)) w1)(kb2:Below w1.heap.size w1 w2)
 (b2:p.num.length<=cn)(b3:p.den.length<=cd)(b4:zw w1 an p.num)(b5:zw w1 ad p.den)(g2:q.num.length<=dn)(g3:q.den.length<=dd)(g4:zw w2 bn q.num)(g5:zw w2 bd q.den){A:World}
 (hA:A=((((w2.alloc (.cells #[.bool p.neg,.slice an p.num.length cn,.slice ad p.den.length cd,.bool q.neg,.slice bn q.num.length dn,.slice bd q.den.length dd] 51)).alloc (zc9 51)).alloc
   (.cells #[.int .i64 1,.int .i64 0,.int .i64 1,.int .i64 0,.int .i64 0,.int .i64 0,.int .i64 0,.slice (some ⟨w2.heap.size,0,none⟩) 2 2,.slice (some ⟨w2.heap.size+1,0,none⟩) 1 1,.int .i64 5,.int .i64 0,.int .i64 0,.int .i64 0,.int .i64 0,.int .i64 0,.int .i64 0,.slice none 0 0,.slice none 0 0] 44)).alloc
   (.cells #[.slice (some ⟨w.heap.size,0,none⟩) 1 1,.slice (some ⟨w2.heap.size+1+1,0,none⟩) 2 2] 25))):
  zah A Any (some ⟨w.heap.size,0,none⟩) [2]/\zaK A (some ⟨w2.heap.size+1+1,0,none⟩) [exD,exR]/\A.cell? ⟨w2.heap.size+1+1+1,0,none⟩=some (.slice (some ⟨w.heap.size,0,none⟩) 1 1)/\A.cell? ⟨w2.heap.size+1+1+1,1,none⟩=some (.slice (some ⟨w2.heap.size+1+1,0,none⟩) 2 2)/\
   w2.heap.size+1+1+1<A.heap.size/\Below w.heap.size w A:=by
 have hst:=fun(W:World) (o:Obj)=>(Ze W.heap.size W).alloc (Za _) o
 have hW:=zjX b2 b3 (b4.below kb2) (b5.below kb2) g2 g3 g4 g5 51;have m1:=hst w2 (.cells #[.bool p.neg,.slice an p.num.length cn,.slice ad p.den.length cd,.bool q.neg,.slice bn q.num.length dn,.slice bd q.den.length dd] 51);have s1:(w2.alloc (.cells #[.bool p.neg,.slice an p.num.length cn,.slice ad p.den.length cd,.bool q.neg,.slice bn q.num.length dn,.slice bd q.den.length dd] 51)).heap.size=w2.heap.size+1:=Yc;generalize w2.alloc (.cells #[.bool p.neg,.slice an p.num.length cn,.slice ad p.den.length cd,.bool q.neg,.slice bn q.num.length dn,.slice bd q.den.length dd] 51)=A1 at *;have hZ:=zkf (w:=A1) (p:=⟨false,[],[]⟩) (an:=none) (ad:=none) (cn:=0) (cd:=0) (Za _) (Za _) (zw.nil _ _) (zw.nil _ _) 51;have m2:=hst A1 (zc9 51);have s2:(A1.alloc (zc9 51)).heap.size=w2.heap.size+1+1:=by simp[s1]
 simp only[Zax]at hZ;generalize A1.alloc (zc9 51)=A2 at *;have m3:=hst A2 (.cells #[.int .i64 1,.int .i64 0,.int .i64 1,.int .i64 0,.int .i64 0,.int .i64 0,.int .i64 0,.slice (some ⟨w2.heap.size,0,none⟩) 2 2,.slice (some ⟨w2.heap.size+1,0,none⟩) 1 1,.int .i64 5,.int .i64 0,.int .i64 0,.int .i64 0,.int .i64 0,.int .i64 0,.int .i64 0,.slice none 0 0,.slice none 0 0] 44);have hc:∀i v,(#[.int .i64 1,.int .i64 0,.int .i64 1,.int .i64 0,.int .i64 0,.int .i64 0,.int .i64 0,.slice (some ⟨w2.heap.size,0,none⟩) 2 2,.slice (some ⟨w2.heap.size+1,0,none⟩) 1 1,.int .i64 5,.int .i64 0,.int .i64 0,.int .i64 0,.int .i64 0,.int .i64 0,.int .i64 0,.slice none 0 0,.slice none 0 0]:Array Value)[i]? =some v->
   (A2.alloc (.cells #[.int .i64 1,.int .i64 0,.int .i64 1,.int .i64 0,.int .i64 0,.int .i64 0,.int .i64 0,.slice (some ⟨w2.heap.size,0,none⟩) 2 2,.slice (some ⟨w2.heap.size+1,0,none⟩) 1 1,.int .i64 5,.int .i64 0,.int .i64 0,.int .i64 0,.int .i64 0,.int .i64 0,.int .i64 0,.slice none 0 0,.slice none 0 0] 44)).cell? ⟨w2.heap.size+1+1,i,none⟩=some v:=by
  intro i v h;rw[World.cell?_alloc_at _ _ _ _ s2.symm];exact h
 have s3:(A2.alloc (.cells #[.int .i64 1,.int .i64 0,.int .i64 1,.int .i64 0,.int .i64 0,.int .i64 0,.int .i64 0,.slice (some ⟨w2.heap.size,0,none⟩) 2 2,.slice (some ⟨w2.heap.size+1,0,none⟩) 1 1,.int .i64 5,.int .i64 0,.int .i64 0,.int .i64 0,.int .i64 0,.int .i64 0,.int .i64 0,.slice none 0 0,.slice none 0 0] 44)).heap.size=w2.heap.size+1+1+1:=by simp[s2]
 generalize A2.alloc (.cells #[.int .i64 1,.int .i64 0,.int .i64 1,.int .i64 0,.int .i64 0,.int .i64 0,.int .i64 0,.slice (some ⟨w2.heap.size,0,none⟩) 2 2,.slice (some ⟨w2.heap.size+1,0,none⟩) 1 1,.int .i64 5,.int .i64 0,.int .i64 0,.int .i64 0,.int .i64 0,.int .i64 0,.int .i64 0,.slice none 0 0,.slice none 0 0] 44)=A3 at *;have m4:=hst A3 (.cells #[.slice (some ⟨w.heap.size,0,none⟩) 1 1,.slice (some ⟨w2.heap.size+1+1,0,none⟩) 2 2] 25);have hb2:=za1.alloc A3 (.slice (some ⟨w.heap.size,0,none⟩) 1 1) (.slice (some ⟨w2.heap.size+1+1,0,none⟩) 2 2) 25;rw[<- hA]at m4 hb2;rw[s3]at hb2;have hi:=ze6 (x:=2) Xj (show(w.alloc (.cells #[.int .i64 2] 3)).cell? ⟨w.heap.size,0,none⟩=some (.int .i64 2) by rw[World.cell?_alloc_at _ _ _ _ rfl];rfl) Yc;have t1:=kb1.trans (kb2.mono kb1.size);have t2:=t1.trans (m1.mono t1.size);have t3:=t2.trans (m2.mono t2.size);have t4:=t3.trans (m3.mono t3.size);have t5:=t4.trans (m4.mono t4.size);have u0:=hst w (.cells #[.int .i64 2] 3)
 refine⟨hi.below t5,⟨Yc,.inr ⟨_,0,rfl,by have:=m4.size;omega,fun j x hj=>?_⟩⟩,hb2.c0,hb2.c1,hb2.lt,u0.trans (t5.mono u0.size)⟩
 have r34:∀i v,A3.cell? ⟨w2.heap.size+1+1,i,none⟩=some v->A.cell? ⟨w2.heap.size+1+1,i,none⟩=some v:=fun i v h=>(m4.cell (p:=⟨w2.heap.size+1+1,i,none⟩) (by show w2.heap.size+1+1<A3.heap.size;omega)).trans h
 match j,hj with
 | 0,hj=>
  simp at hj;subst hj
  refine⟨some ⟨w2.heap.size,0,none⟩,some ⟨w2.heap.size+1,0,none⟩,2,1,⟨r34 _ _ (hc 0 _ rfl),r34 _ _ (hc 1 _ rfl),r34 _ _ (hc 2 _ rfl),r34 _ _ (hc 3 _ rfl),r34 _ _ (hc 4 _ rfl),r34 _ _ (hc 5 _ rfl),r34 _ _ (hc 6 _ rfl),r34 _ _ (hc 7 _ rfl),r34 _ _ (hc 8 _ rfl)⟩,?_,?_⟩
  ·show zm _ _ [zc 1,zc (-1)]
   rw[<- hp,<- hq];exact((hW.below m2).below m3).below m4
  ·show zm _ _ [zc 0]
   rw[zcz];rw[s1]at hZ;exact(hZ.below m3).below m4
 | 1,hj=>
  simp at hj;subst hj;exact⟨none,none,0,0,⟨r34 _ _ (hc 9 _ rfl),r34 _ _ (hc 10 _ rfl),r34 _ _ (hc 11 _ rfl),r34 _ _ (hc 12 _ rfl),r34 _ _ (hc 13 _ rfl),r34 _ _ (hc 14 _ rfl),r34 _ _ (hc 15 _ rfl),r34 _ _ (hc 16 _ rfl),r34 _ _ (hc 17 _ rfl)⟩,⟨by simp[exR],.inl rfl⟩,⟨by simp[exR],.inl rfl⟩⟩
