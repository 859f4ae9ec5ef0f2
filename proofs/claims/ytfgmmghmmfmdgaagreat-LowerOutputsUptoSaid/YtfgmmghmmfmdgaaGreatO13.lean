/-
  Contracts: RefH, RefI, RefJ, RefK, RefL, RefM, RefN, RefO, RefP, RefQ, RefR, RefS, RefT, RKB, IntD, RatH, RatI, EvS, RBox, EvA, RefV, EvB.
-/
import Derived.Test.YtfgmmghmmfmdgaaGreatO12
import Derived.Deep.RegionWith
import Derived.Test.YtfgmmghmmfmdgaaGreatO7
import Derived.Test.YtfgmmghmmfmdgaaGreatO0
set_option linter.all false
set_option maxRecDepth 100000
set_option maxHeartbeats 3200000
namespace Go.Proofs.YtfgmmghmmfmdgaaGreat
open Go.RowKit
open Go.Lib (hid)
theorem Ob{P:Prop}(h:P:=by
 intro ops;simp only[Zo,Zw,zbR]
 refine⟨?v0,?v1,?v2,?v3,?v4,?v5,?v6,?v7,?_,trivial⟩
 all_goals (intro g W hR hL;have hB:=hR.base;obtain⟨x0,x1,x2,ic0,yc0,yc1,yc2⟩:=HCe.out W hR.be;simp only[zdt,Region.binds,ZB,Zn,Zx,GR,Zf,Zc]at hL;simp[ze,Act.put])
 case v0|v1|v2|v3|v4|v5|v6|v7=>
  exact Ut
 ·try simp only[hL]
  clear hL;have HR:=hid hR;clear hR;have HCt:=hid (HCl.out W HR.out.be);exact Um
):P:=h
theorem Um{P:Prop}(h:P:=by go_wp2_with fail;refine HCt.out.mono ?_;rintro e w1 ⟨v1,rfl,kv,kb⟩;obtain⟨KV,KB⟩:=hd2 kv kb;clear kv kb HCt;go_wp2;exact⟨_,rfl,(HR.out.gp KB.out),KB.out,KV.out⟩):P:=h
theorem Ut{P:Prop}(h:P:=by
 try simp only[hL]
 clear hL;have HR:=hid hR;clear hR;go_wp2;exact⟨_,rfl,HR.out,Ze _ _,rfl⟩
):P:=h
theorem U8{P:Prop}(h:P:=by
 obtain⟨x0,x1,x2,_,xlt⟩:=hF.a;obtain⟨y0,y1,y2,_,ylt⟩:=hF.b;have hbs:=hF.bl.size;clear hF A4 A5 B4 B5
 by_cases e1:x.neg=y.neg
 ·have te1:(x.neg==y.neg)=true:=KE;rw[Zk e1,Z4]at HR;clear e1
  by_cases e2:x.num=y.num
  ·rw[Zk e2]at HR HM1;clear e2;rw[Z4]at HR;generalize decide (x.den=y.den)=D at *
   go_wp2_with fail
   refine HM1.out.mono ?_
   rintro e w2 ⟨rfl,n1,rfl⟩
   go_wp2_with fail
   refine(HM2.out n1).mono ?_
   rintro e w3 ⟨rfl,n2,rfl⟩;go_wp2;go_ret;exact⟨zi HR.out.symm,HBl.out.trans ((HBn.out _ (n1+n2)).mono HBl.out.size)⟩
  ·rw[Zj e2]at HR HM1;clear e2;rw[Bool.false_and]at HR
   go_wp2_with fail
   refine HM1.out.mono ?_
   rintro e w2 ⟨rfl,n1,rfl⟩;go_wp2;go_ret;exact⟨zi HR.out.symm,HBl.out.trans ((HBn.out _ _).mono HBl.out.size)⟩
 ·have te1:(x.neg==y.neg)=false:=X0;rw[Zj e1,Bool.false_and]at HR;clear e1;go_wp2;go_ret;exact⟨zi HR.out.symm,HBl.out⟩
):P:=h
theorem UF{P:Prop}(h:P:=by
 obtain⟨j,hj,rfl,HA,HB⟩:=hrel
 by_cases hlt:j<L.length
 ·obtain⟨b,off,x,an,ad,cn,cd,rfl,hb,hx,o0,o1,o2,hv⟩:=(H.out.below HB.out).pick hlt;obtain⟨HM,HT⟩:=hd2 (Zq hx) (zjf hx);have HC:=hid (zkq hv (HL.out _ HM.out));clear hx hv
  go_wp2_with fail
  refine HC.out.mono ?_
  rintro e w2 ⟨rfl,hb2⟩;have HB2:=htr HB hb2;clear hb2 HC o0 o1 o2
  cases hq:zP x with
  | false=>
   have HF2:=hid (HF.out x HM.out hq);clear hq;go_wp2;go_ret;exact⟨zi HF2.out.symm,HB2.out⟩
  | true=>
   have HT2:Hid ((L.take (j+1)).all zP=true):=Vo;clear hq;go_wp2;go_roundw
   case rel=>exact⟨j+1,hlt,Yg,HT2.out,HB2.out⟩
   case measure=>simp[intOf];omega
 ·have HR2:Hid (L.all zP=true):=by
   have h:=HA.out;rw[ZM Ya]at h;exact h
  go_wp2;go_ret;exact⟨zi HR2.out.symm,HB.out⟩
):P:=h
theorem UP{P:Prop}(h:P:=by go_wp2_with fail;refine HM.out.mono ?_;rintro e w3 ⟨v3,rfl,⟨a3,c3,rfl,q1,q2⟩,q5⟩;have hS3:=HB2.out.trans (q5.mono HB2.out.size);obtain⟨t0,t1,tf,tlt⟩:=HF.out.c.below hS3;obtain⟨HI,HBf⟩:=hd2 (znA.store (HF.out.nc.below hS3 HF.out.c.lt) q1 q2) (zav (p:=.bool (decide (sgn n1 x+sgn n2 y<0))) (q:=.slice a3 (za (sgn n1 x+sgn n2 y).natAbs).length c3) (HF.out.bl.trans (hS3.mono Yv)) (show w.heap.size<=w.heap.size+1+1 from Ya));clear q2 q5 hS3 HM;generalize decide (sgn n1 x+sgn n2 y<0)=B at *;generalize(za (sgn n1 x+sgn n2 y).natAbs).length=L at *;go_wp2;exact Zp (v:=.agg #[.bool B,.slice a3 L c3]) KZ rfl ⟨_,rfl,HI.out,HBf.out⟩):P:=h
theorem UW{P:Prop}(h:P:=by
 have HLL:=hid hL;clear hB hL HX;go_wp2;have hU:zw ((w2.setCell ⟨w.heap.size,0,none⟩ (.bool B)).setCell ⟨w.heap.size,1,none⟩ (.slice a2 L.length c2)) a2 L:=(K2.out.setCell HN2.out _ _).setCell (HN2.out.setCell _ _ Yc) _ _;have hbf:=(HB2.out.setCell (p:=⟨w.heap.size,0,none⟩) (Za _) (.bool B)).setCell (p:=⟨w.heap.size,1,none⟩) (Za _) (.slice a2 L.length c2);exact Zp (v:=.agg #[.bool B,.slice a2 L.length c2]) Jf rfl ⟨_,rfl,⟨a2,c2,by rw[HBB.out,HLL.out],by rw[HLL.out];exact k1,by rw[HLL.out];exact hU⟩,hbf⟩
):P:=h
theorem UX{P:Prop}(h:P:=by clear hK e1;generalize zc M=R at *;go_wp2_with fail;refine HK.out.mono ?_;rintro e w2 ⟨v2,rfl,⟨bn',bd',m1,m2,rfl,k3,k4,k5,k6⟩,k2⟩;obtain⟨r0,r1,r2,rf,rlt⟩:=HF1.out.c.below k2;obtain⟨hN5,K5,K6,hB5⟩:=hd4 (HF1.out.nc.below k2 HF1.out.c.lt) k5 k6 (HF1.out.bl.trans (k2.mono (by have:=HF1.out.a.lt;omega)));clear HK k5 k6 k2;go_wp2;exact Zp (v:=.agg #[.bool R.neg,.slice bn' R.num.length m1,.slice bd' R.den.length m2]) KP rfl ⟨_,rfl,RatV.store hN5.out k3 k4 K5.out K6.out,zu hB5.out Ya _ _ _⟩):P:=h
theorem Tq{P:Prop}(h:P:=by have b1':=(b1.below s2).below s3;have b2':=b2.below s3;have bl:=(s1.trans (s2.mono Yc)).trans (s3.mono Yi);simp only[Zbg]at b2' b3 n3;exact⟨b1',b2',b3,n3,bl⟩):P:=h
theorem TF{P:Prop}(h:P:=by rintro e w1 ⟨a1,c1,l1,rfl,p1,p2,p3,p4,p5⟩;obtain⟨HP2,HP3,HP5⟩:=hd3 p2 p3 p5;clear p2 p3 p5 q0 q1 q2 q3 q4 q5;go_wp2;exact⟨_,rfl,⟨Zi hB HP5.out.size,HR.out.be.trans (HP5.out.mono hB)⟩,HP5.out,a1,c1,l1,rfl,p1,HP2,HP3,p4⟩):P:=h
theorem TN{P:Prop}(h:P:=by rintro e w1 ⟨a2,c2,rfl,g1,g2,g3,_⟩;obtain⟨HG2,HG3⟩:=hd2 g2 g3;clear g2 g3 q0 q1 q2 q3 q4 q5;go_wp2;exact⟨_,rfl,⟨Zi hB HG3.out.size,HR.out.be.trans (HG3.out.mono hB)⟩,HG3.out,a2,c2,rfl,g1,HG2⟩):P:=h
theorem TW{P:Prop}(h:P:=by
 try simp only[hL]
 clear hL;have HR:=hid hR;clear hR;go_wp2;exact⟨_,rfl,HR.out.alloc _,(Ze V.heap.size V).alloc (Za _) _,V.heap.size,hB,rfl,za1.alloc _ _ _ _,zX.alloc V _ _ Yc⟩
):P:=h
theorem TZ{P:Prop}(h:P:=by generalize g 1=y1 at hL⊢;generalize g 7=y7 at hL⊢;obtain⟨rfl,⟨a2,c2,rfl,g1,HG2⟩,_⟩:=hL;have HR:=hid hR;clear hR;go_wp2;exact⟨_,rfl,HR.out,Ze _ _,a2,c2,rfl,g1,HG2⟩):P:=h
theorem Ea{P:Prop}(h:P:=by rw[Zd,Zh Ya];exact Z1 _):P:=h
theorem E4{P:Prop}(h:P:=by exact Z3 _ _ _ ((ZA _ _ _ _ Yo).trans h.c1)):P:=h
theorem E8{P:Prop}(h:P:=by go_wp2;exact Zp (v:=.agg #[.bool false,.slice a2 L.length c2,.slice (some ⟨p1,o1,none⟩) 1 c3]) Yr rfl ⟨_,rfl,Vn,HBE1.out false⟩):P:=h
theorem E9{P:Prop}(h:P:=by go_wp2;exact Zp (v:=.agg #[.bool false,.slice a2 L.length c2,.slice a3 (za (d/G)).length c3]) Yr rfl ⟨_,rfl,Xm,HBE.out false⟩):P:=h
theorem EC{P:Prop}(h:P:=by clear q2 q3 q5 hS3 HM hsg;go_wp2;exact Zp (v:=.agg #[.bool B,.slice a3 l3.length c3]) Ja rfl ⟨_,B,_,rfl,HI.out,HSg.out,HBf.out⟩):P:=h
theorem EL{P:Prop}(h:P:=by
 clear g4 g5 J8;go_wp2;go_roundw
 case rel=>exact⟨k+1,Ya,hlt,Yg,HStep.out⟩
 case measure=>simp[intOf];omega
):P:=h
theorem EQ{P:Prop}(h:P:=by exact Z3 _ _ _ ((ZA _ _ _ _ Yo).trans ((ZA _ _ _ _ Yo).trans h.c2))):P:=h
theorem ES{P:Prop}(h:P:=by go_wp2;exact Zp (v:=.agg #[.bool false,.slice a2 L.length c2,.slice none 0 0]) Yr rfl ⟨_,rfl,Xm,HBE.out false⟩):P:=h
theorem EX{P:Prop}(h:P:=by
 obtain⟨g1,g2⟩:=hb _ (Z1 hk);exact⟨ix[k].toNat,by rw[Zh hk];congr 1;omega,Ya⟩
):P:=h
theorem Id{P:Prop}(h:P:=by have b1':=b1.below s3;have bl:=s1.trans (s3.mono Yc);simp only[Zbg]at b3 n3;exact⟨b1',b3,n3,bl⟩):P:=h
theorem Ie{P:Prop}(h:P:=by
 go_wp2;go_roundw
 case rel=>exact⟨k+1,hlt,Yg,HStep.out⟩
 case measure=>simp[intOf];omega
):P:=h
theorem Iv{P:Prop}(h:P:=by rw[hs,hs1,zH,hy1,<- hvk];obtain⟨j,rfl⟩:∃j,k=j+1:=⟨k-1,Ya⟩;rfl):P:=h
theorem I2{P:Prop}(h:P:=by exact Z3 _ _ _ h.c0):P:=h
theorem I8{P:Prop}(h:P:=by unfold Hid;rw[zb4 _ _ (Zak (zU _) (zU _)),zuo];rfl):P:=h
theorem Yr{P:Prop}(h:P:=by simp[results,Tryz.results74,go_sem,r0,r1,r2]):P:=h
theorem X6{P:Prop}(h:P:=by simp[results,Tryz.results76,go_sem,r0,r1]):P:=h
theorem KN{P:Prop}(h:P:=by simp[results,Tryz.results102,go_sem,z0,z1,z2]):P:=h
theorem KP{P:Prop}(h:P:=by simp[results,Tryz.results23,go_sem,r0,r1,r2]):P:=h
theorem KZ{P:Prop}(h:P:=by simp[results,Tryz.results109,go_sem,t0,t1]):P:=h
theorem Ja{P:Prop}(h:P:=by simp[results,Tryz.results160,go_sem,t0,t1]):P:=h
theorem Jf{P:Prop}(h:P:=by simp[results,Tryz.results47,go_sem,r0,r1]):P:=h
theorem Ji{P:Prop}(h:P:=by simp[results,Tryz.results87,go_sem,t0,t1]):P:=h
def zre(w:World)(x y:Nat)(e:Ending)(w':World):Prop:=∃a c b d,e=.returned (.tuple #[.slice a (za (x/y)).length c,.slice b (za (x%y)).length d,.int .i64 0])/\(za (x/y)).length<=c/\(za (x%y)).length<=d/\zw w' a (za (x/y))/\zw w' b (za (x%y))/\Below w.heap.size w w'
theorem zhz{w:World}{a b:Option Addr}{l m:List Nat}{x y:Nat}(c d:Nat)(hc:l.length<=c)(hd:m.length<=d)(h:zw w a l)(g:zw w b m)(hx:zo l=x)(hy:zo m=y)(hr:l.length<=2097152)(hr2:m.length<=2097152)(hy0:0<y)
 (h1:(za x).length<=2)(h2:(za y).length<=2):
  Calls Tryz.prog 106 #[.slice a l.length c,.slice b m.length d] w (zre w x y):=by
 obtain⟨HA,HB,HG⟩:=hd3 (zkO c hc h hx Ya) (fun wv (hu:zw wv b m)=>zkO d hd hu hy Ya) g;have HO1:Hid (zce x=true):=Zk h1;have HO2:Hid (zce y=true):=Zk h2;obtain⟨HX,HY⟩:=hd2 (zeW h1) (zeW h2);rw[HO1.out,Zm h1]at HA;simp only[HO2.out,Zm h2]at HB;have hz1:((y:Int)==0)=false:=bn0 Ya;clear h g hx hy hc hd h1 h2
 go_enter Tryz.func106,Tryz.ntmps106
 go_wp2_with fail
 refine HA.out.mono ?_
 rintro e w1 ⟨rfl,hb1⟩;have HB2:=HB.out w1 (HG.out.below hb1);obtain⟨HC,HB1⟩:=hd2 HB2 hb1;clear HA HB HB2 hb1
 go_wp2_with fail
 refine HC.out.mono ?_
 rintro e w2 ⟨rfl,hb2⟩;have HB2:=htr HB1 hb2;have HYp:=hid hy0;clear hb2 HC HB1;have D1:=zgC x y;have D2:=ze9 x y;have D3:Hid (x/y<18446744073709551616):=ZaB (Za1 _ _) HX.out;have D4:Hid (x%y<18446744073709551616):=ZaB (Nat.mod_le _ _) HX.out;have O1:Hid (∀wv,Calls Tryz.prog 77 #[.int .u64 (IntKind.u64.wrap ((x:Int)/(y:Int)))] wv (zrm wv (x/y))):=fun wv=>by
  have h:=zs5 (x/y) D3.out wv
  rwa [show((x/y:Nat):Int)=IntKind.u64.wrap ((x:Int)/(y:Int)) by rw[IntKind.wrap_u64,<- Int.natCast_ediv];have:=D3.out;generalize x/y=q at *;omega]at h
 have O2:Hid (∀wv,Calls Tryz.prog 77 #[.int .u64 ((x:Int)%(y:Int))] wv (zrm wv (x%y))):=fun wv=>by
  have h:=zs5 (x%y) D4.out wv
  rwa [Int.natCast_emod]at h
 go_wp2
 go_region_with (go_at_call 77;first|((with_reducible refine(O1.out _).mono ?_);rintro e w3 ⟨a3,c3,rfl,h3,h4,h5,h6⟩)|((with_reducible refine(O2.out _).mono ?_);rintro e w3 ⟨b3,d3,rfl,g3,g4,g5,g6⟩))
 all_goals
  go_wp2
  go_ret3
  have k5:=(Ze w2.heap.size w2).drew.trans h5;exact⟨a3,c3,b3,d3,rfl,h3,g3,h4.below g5,g4,HB2.out.trans ((k5.trans (g5.mono k5.size)).mono HB2.out.size)⟩
theorem zw.setFar{w:World}{g:Nat}{a:Option Addr}{l:List Nat}(h:zw w a l)(hf:Far (g+1) a)(o:Nat)(v:Value):zw (w.setCell ⟨g,o,none⟩ v) a l:=by
 by_cases hl:l=[]
 ·exact IM
 obtain⟨b,off,rfl,hb,hc⟩:=h.open hl;have hne:b≠g:=by
  have:=hf _ rfl;simp only at this;omega
 exact((zf8.refl g w).setCell o v).u32s hne h
theorem zsW{a s:Nat}(ha:a<4294967296)(hs:s<32):bits .or .u32 (a:Int) (2^s%4294967296)=((a ||| 2^s:Nat):Int):=by
 have h1:2^s<=2^31:=Zt Ya Ya;have h2:((2:Int)^s%4294967296)=((2^s:Nat):Int):=by
  have:((2:Int)^s)=((2^s:Nat):Int):=Yc;rw[this];clear this;generalize 2^s=p at *;omega
 rw[h2,zdW _ _ ha Ya]
theorem zkF(a:Nat)(ha:a<4294967296):bits .and .u32 (a:Int) 1=((a%2:Nat):Int):=by
 have h1:(BitVec.ofInt 32 (a:Int)).toNat=a:=EY;show IntKind.u32.wrap ((BitVec.ofInt 32 (a:Int) &&& BitVec.ofInt 32 (1:Int)).toNat:Int)=_
 rw[BitVec.toNat_and,h1,show(BitVec.ofInt 32 (1:Int)).toNat=1 from rfl,Nat.and_one_is_mod,IntKind.wrap_u32];omega
theorem zot{R m b:Nat}(h:(za R).length<=m)(hb:b<2):(za (R*2+b)).length<=m+1:=by
 apply zaq
 have h1:=Zb (zaT R) (Zt (show 0<4294967296 from Ya) h);rw[Zas];omega
theorem zw.one(w:World){b:Nat}(hb:b<4294967296)(T:Nat):zw (w.alloc (.cells #[.int .u32 (b:Int)] T)) (some ⟨w.heap.size,0,none⟩) [b]:=by
 refine⟨by intro d hd;simp at hd;omega,Yc,.inr ⟨w.heap.size,0,rfl,Yc,fun j d hj=>?_⟩⟩
 exact I6
theorem ziX{w:World}{a b:Option Addr}{l m:List Nat}{x y:Nat}(c d:Nat)(hc:l.length<=c)(hd:m.length<=d)(h:zw w a l)(g:zw w b m)(hx:zo l=x)(hy:zo m=y)(hr:l.length<=2097152)(hr2:m.length<=2097152)(hy0:0<y)
 (h12:¬ ((za x).length<=2/\(za y).length<=2)):
  Calls Tryz.prog 106 #[.slice a l.length c,.slice b m.length d] w (zre w x y):=by
 obtain⟨HA,HB,HBt,HU,HG,HX⟩:=hd6 (zkO c hc h hx Ya) (fun wv (hu:zw wv b m)=>zkO d hd hu hy Ya) (fun wv (hu:zw wv a l)=>zsp c hc hu hx Ya) h g hx;have HY:=hid hy;have hlx:(za x).length<=l.length:=Ym;obtain⟨i0,hi,hz3,hz4,hz5⟩:=info_parts Tryz.infoU32;have hfl:(zce y && (if(za y).length<=2 then(y:Int)else 0)==0)=false/\(zce x && zce y)=false:=by
  unfold zce
  by_cases h1:(za y).length<=2
  ·have h2:¬ (za x).length<=2:=fun h=>h12 ⟨h,h1⟩
   simp[h1,h2];omega
  ·simp[h1]
 obtain⟨f1,f2⟩:=hfl;clear h g hx hy hc hd h12
 go_enter Tryz.func106,Tryz.ntmps106
 go_wp2_with fail
 refine HA.out.mono ?_
 rintro e w1 ⟨rfl,hb1⟩;have HB2:=HB.out w1 (HG.out.below hb1);obtain⟨HC,HB1⟩:=hd2 HB2 hb1;clear HA HB HB2 hb1;generalize(if(za x).length<=2 then(x:Int)else 0)=X at *;generalize(if(za y).length<=2 then(y:Int)else 0)=Y at *;generalize zce x=P at *;generalize zce y=Q at *
 go_wp2_with fail
 refine HC.out.mono ?_
 rintro e w2 ⟨rfl,hb2⟩;have HB2:=htr HB1 hb2;have HYp:=hid hy0;clear hb2 HC HB1;have hPQ:(Q=false/\P=false)∨(Q=false/\P=true)∨(Q=true/\P=false/\(Y==0)=false):=by
  cases Q<;>cases P<;>simp_all
 clear f1 f2
 rcases hPQ with⟨rfl,rfl⟩|⟨rfl,rfl⟩|⟨rfl,rfl,hY0⟩
 all_goals
  go_wp2_with (at_make;refine wpList_make_full _ rfl _ _ 48 rfl w2.heap.size 109 i0 (.int .u32 0) 1 Tryz.underlying48 hi hz3 hz4 _ _ _ _ l.length rfl rfl Ya Ya ?b2 ?b3 (Za _) ?_)
  case b2=>rw[hz5];omega
  case b3=>unfold maxLen;omega
  intro w3 hown hgrow;have HB0:Hid (Blk w3 w2.heap.size l.length (zcc 0) 109):=by
   refine Blk.of_own (base:=w2.heap.size) ?_
   have e:(madeCells #[Value.int IntKind.u32 0] l.length).toList=(List.range l.length).map fun i=>Value.int .u32 ((zcc 0 i:Nat):Int):=by
    simp[Zbp,List.map_const',zkj]
   rw[<- e];exact hown
  have hb3:Below w2.heap.size w2 w3:=(Ze _ _).grown hgrow (Za _) (fun k h=>YP);clear hown hgrow
  try clear hY0
  go_wp2_with fail
  refine(HBt.out _ (HU.out.below ((HB2.out.trans (hb3.mono HB2.out.size)).alloc (Zi HB2.out.size hb3.size) _))).mono ?_
  rintro e w4 ⟨n,rfl,hn1,hn2,hb4⟩;have HN1:=hid hn1.1;have hb34:=((Ze _ w3).alloc (Za _) _).trans (hb4.mono Yc);have HBk:Hid (Blk w4 w2.heap.size l.length (zcc (zdI x y n)) 109):=by
   rw[(zqJ HN1.out).2];exact HB0.out.below hb34
  have HB4:=hid (hb3.trans (hb34.mono hb3.size));have hR0:=(zqJ (B:=y) HN1.out).1;have HF0:Hid (Far (w2.heap.size+1) (some ⟨w3.heap.size,0,none⟩)):=fun p e=>by cases e;exact HB0.out.lt
  clear HB0 hb3 hb4 hb34 hn1 HBt;go_wp2
  go_loopw [12,13] (fun r i wr=>∃(k:Nat) (I:Int) (a1:Option Addr) (c1:Nat),k<=n/\I+1=(k:Int)/\i=.int .i64 I/\r=.slice a1 (za (zdO x y k)).length c1/\(za (zdO x y k)).length<=c1/\Hid (zw wr a1 (za (zdO x y k)))/\Hid (Far (w2.heap.size+1) a1)/\Hid (Blk wr w2.heap.size l.length (zcc (zdI x y k)) 109)/\Hid (Below w2.heap.size w2 wr)) (fun _ i _=>(intOf i+1).toNat)
  case atStart=>exact⟨n,_,_,0,Za _,Ya,rfl,by rw[hR0,zy];rfl,by rw[hR0,zy];exact Za _,by unfold Hid;rw[hR0,zy];exact zw.nil _ _,HF0,HBk,HB4⟩
  case round=>
   clear hR0 HF0 HBk HB4;obtain⟨k,I,a1,c1,hk,hI,rfl,rfl,hc1,HR,HF,HBk,HBw⟩:=hrel
   cases k with
   | zero=>
    obtain rfl:I= -1:=Ya;have hxl:x<4294967296^l.length:=by rw[<- HX.out];exact zct HU.out.lim
    have hv:zo ((List.range l.length).map (zcc (zdI x y 0)))=x/y:=by
     rw[zbL,zj9 _ _ (ZaB (zpX _ _ _) hxl),(zqQ x y).2]
    have hU:=HBk.out.u32s (fun i _=>zjE _ _) Ya;have hM:=zdL l.length Yc hU Yi;rw[hv]at hM;simp only[Zv,Zav]at hM;have HM:=hid hM;rw[(zqQ x y).1]at hc1 HR⊢;clear hM hU hv hxl
    go_wp2_with fail
    refine HM.out.mono ?_
    rintro e w5 ⟨a2,c2,rfl,h2,g2,hb5,hf5⟩;obtain⟨g3,g4,HB5⟩:=hd3 (HR.out.below hb5) g2 (HB2.out.trans ((HBw.out.trans (hb5.mono HBw.out.size)).mono HB2.out.size));clear HM hb5 hf5 g2;go_wp2
    go_ret3
    exact⟨a2,c2,a1,c1,rfl,h2,hc1,g4.out,g3.out,HB5.out⟩
   | succ q=>
    obtain rfl:I=(q:Int):=Ya;have hRy:zdO x y (q+1)<y:=Z7 _ HYp.out;have hlR:(za (zdO x y (q+1))).length<=m.length:=Zi (zaC (Zan hRy)) (by rw[<- HY.out];exact zG HG.out.lim);have hS:=ztp c1 0 1 1 Ya Ya Ya HR.out (zg _) Ya;rw[Nat.pow_one]at hS;have HS:=hid hS;clear hS;obtain⟨p1,o1,rfl,hp1,q1⟩:=(HU.out.below (HB2.out.trans (HBw.out.mono HB2.out.size))).pick (show q/32<l.length from Ya);have hbit:bits .and .u32 ((dig l (q/32):Int)/2^(q%32)) 1=((zg4 x q:Nat):Int):=by
     rw[<- HX.out,zn3 HU.out.lim,show((dig l (q/32):Int)/2^(q%32))=((dig l (q/32)/2^(q%32):Nat):Int)from Yc,zkF _ (ZaB (Za1 _ _) (zJ HU.out.lim _))]
    have hdl:=zJ HU.out.lim (q/32);have hB2:=zle x q;obtain⟨HGe,HLt⟩:=hd2 (fun h=>zry (A:=x) (B:=y) (i:=q) HYp.out h) (fun h=>zrs (A:=x) (B:=y) (i:=q) h);generalize hRR:zdO x y (q+1)=R at *;have HRR:=hid hRR;generalize zg4 x q=B at *;generalize dig l (q/32)=dg at *;clear hRR
    go_wp2_with fail
    refine HS.out.mono ?_
    rintro e w5 ⟨a2,c2,rfl,h2,g2,hb5,hf5⟩;have q2:w5.cell? ⟨p1,o1+q/32,none⟩=_:=(hb5.cell hp1).trans q1;obtain⟨g3,HB5,HF5⟩:=hd3 g2 hb5 hf5;clear HS hb5 hf5 g2 q1;have hl2:(za (R*2)).length<=m.length+1:=zot (b:=0) hlR Ya;have hl3:=zot hlR hB2;have hA:=zss (w:=w5.alloc (.cells #[.int .u32 (B:Int)] 109)) c2 1 (g3.out.below ((Ze _ _).alloc (Za _) _)) (zw.one w5 Ya _) (zg _) (zkK B) Ya Yc;have HA:=hid hA;clear hA
    go_wp2_with fail
    refine HA.out.mono ?_
    rintro e w6 ⟨a3,c3,rfl,h6,g6,hb6,hf6⟩;have G6:=hid g6;have hb56:=((Ze _ w5).alloc (Za _) _).trans (hb6.mono Yc);have hb26:=HBw.out.trans ((HB5.out.trans (hb56.mono HB5.out.size)).mono HBw.out.size);obtain⟨HB26,HC6⟩:=hd2 hb26 (zsg c3 d g6 (HG.out.below (HB2.out.trans (hb26.mono HB2.out.size))));rw[zg,HY.out]at HC6;obtain⟨HF6,HBk6⟩:=hd2 (hf6.mono (show w2.heap.size+1<=_ from Zi (Zi HBk.out.lt HB5.out.size) Yc)) (HBk.out.below (HB5.out.trans (hb56.mono HB5.out.size)));clear HA hb6 hf6 g6 hb56 hb26 g3 HR HBk HBw HB5 HF5 HF hbit q2
    go_wp2_with fail
    refine HC6.out.mono ?_
    rintro e w7 ⟨rfl,rfl⟩;have HGe2:Hid (y<=R*2+B->zdO x y q=R*2+B-y/\zdI x y q=zdI x y (q+1) ||| 2^q):=fun h=>by
     have:=HGe.out Ya
     rwa [ZD 2 R]at this
    have HLt2:Hid (R*2+B<y->zdO x y q=R*2+B/\zdI x y q=zdI x y (q+1)):=fun h=>by
     have:=HLt.out Ya
     rwa [ZD 2 R]at this
    clear HGe HLt HC6 hl2;generalize R*2+B=N at *
    by_cases hge:y<=N
    ·have hcm:decide (0<=zdR N y)=true:=by
      apply Zk
      unfold zdR;rw[Zg Ya]
      split<;>omega
     have HS:=hid (zq1 c3 d G6.out (HG.out.below (HB2.out.trans (HB26.out.mono HB2.out.size))) (zg N) HY.out Ya Ya)
     go_wp2_with fail
     refine HS.out.mono ?_
     rintro e w8 (⟨hlt,_⟩|⟨_,hb8,a4,c4,rfl,h8,g8,hf8⟩)
     ·omega
     have HB8:=htr HB26 hb8;have hbk8:=HBk6.out.below hb8;have k1:=hbk8.cell (x:=q/32) Ya;have k2:=hbk8.free (q/32);have hlo:=zjE (zdI x y (q+1)) (q/32);obtain⟨HBk8,HF8,G8⟩:=hd3 hbk8 (hf8.mono (show w2.heap.size+1<=_ from Zi HBk6.out.lt (Za _))) g8;clear HS hb8 hbk8 g8 hf8 HF6 HBk6 HB26 G6 hcm;go_wp2
     go_region
     go_wp2;go_roundw
     case rel=>
      have e:=HGe2.out hge
      refine⟨q,(q:Int)-1,a4,c4,Ya,Ya,rfl,by rw[e.1],by rw[e.1];exact h8,by rw[e.1];exact(G8.out.setFar HF8.out _ _).drewN 1,HF8,?_,((HB8.out.setCell (Za _) _).drew)⟩
      unfold Hid;rw[e.2,zsW hlo (Z7 _ Ya)];exact((HBk8.out.set (q/32) _).congr (fun i _=>by rw[zop];by_cases hi:i=q/32<;>simp[hi])).drewN 1
     case measure=>simp[intOf]
    ·have hcm:decide (0<=zdR N y)=false:=by
      apply Zj
      unfold zdR;rw[Zm Ya];omega
     go_wp2;go_roundw
     case rel=>
      have e:=HLt2.out Ya
      refine⟨q,(q:Int)-1,a3,c3,Ya,Ya,rfl,by rw[e.1],by rw[e.1];exact h6,by rw[e.1];exact G6,HF6,by rw[e.2];exact HBk6,HB26⟩
     case measure=>simp[intOf]
theorem ziu{w:World}{a b:Option Addr}{l m:List Nat}{x y:Nat}(c d:Nat)(hc:l.length<=c)(hd:m.length<=d)(h:zw w a l)(g:zw w b m)(hx:zo l=x)(hy:zo m=y)(hr:l.length<=2097152)(hr2:m.length<=2097152)(hy0:0<y):
  Calls Tryz.prog 106 #[.slice a l.length c,.slice b m.length d] w (zre w x y):=by
 by_cases h12:(za x).length<=2/\(za y).length<=2
 ·exact zhz c d hc hd h g hx hy hr hr2 hy0 h12.1 h12.2
 ·exact ziX c d hc hd h g hx hy hr hr2 hy0 h12
theorem ztG{w:World}{a b:Option Addr}{l m:List Nat}{x y:Nat}(c d:Nat)(hc:l.length<=c)(hd:m.length<=d)(h:zw w a l)(g:zw w b m)(hx:zo l=x)(hy:zo m=y)(hr:l.length<=2097152)(hr2:m.length<=2097152):
  Calls Tryz.prog 105 #[.slice a l.length c,.slice b m.length d] w (zoN w (Nat.gcd x y)):=by
 have hA:=zdL c hc h Ya;rw[hx]at hA;obtain⟨HA,HB⟩:=hd2 hA (fun wv (hu:zw wv b m)=>zdL d hd hu Ya);rw[hy]at HB;have HG:=hid g;have hle:(za x).length<=l.length:=Ym;have hle2:(za y).length<=m.length:=Y3;clear h g hx hy hc hd hA
 go_enter Tryz.func105,Tryz.ntmps105
 go_wp2_with fail
 refine HA.out.mono ?_
 rintro e w1 ⟨a1,c1,rfl,hc1,ha1,hb1,_⟩;obtain⟨HB2,HA1,HBe⟩:=hd3 (HB.out w1 (HG.out.below hb1)) ha1 hb1;clear HA HB ha1 hb1
 go_wp2_with fail
 refine HB2.out.mono ?_
 rintro e w2 ⟨b1,d1,rfl,hd1,hb2,hbb2,_⟩;obtain⟨HA2,HB3⟩:=hd2 (HA1.out.below hbb2) hb2;have HBw:=htr HBe hbb2;clear HB2 hb2 hbb2 HA1 HBe;go_wp2
 go_loopg [0,1] y (fun k p q wr=>∃(A B:Nat) (a1 b1:Option Addr) (c1 d1:Nat),k=B/\p=.slice a1 (za A).length c1/\q=.slice b1 (za B).length d1/\(za A).length<=c1/\(za B).length<=d1/\(za A).length<=2097152/\(za B).length<=2097152/\Hid (zw wr a1 (za A))/\Hid (zw wr b1 (za B))/\Hid (Nat.gcd A B=Nat.gcd x y)/\Below w.heap.size w wr)
 case atStart=>exact⟨x,y,a1,b1,c1,d1,rfl,rfl,rfl,hc1,hd1,Ya,Ya,HA2,HB3,rfl,HBw.out⟩
 case round=>
  clear HA2 HB3 hc1 hd1 hle hle2 hr hr2 HBw;obtain⟨A,B,a1,b1,c1,d1,hgk,rfl,rfl,hc1,hd1,hrA,hrB,HA1,HB1,HG,hb⟩:=hrel;have HGk:=hid hgk;clear hgk
  by_cases h0:B=0
  ·subst h0;have HG0:Hid (A=Nat.gcd x y):=Kf;rw[zy]at *;go_wp2;go_ret
   refine⟨a1,c1,?_,?_,?_,hb⟩
   ·rw[<- HG0.out];rfl
   ·rw[<- HG0.out];exact hc1
   ·rw[<- HG0.out];exact HA1.out
  ·have hB0:0<B:=Zaz h0;have hlB:=zak.2 hB0;have HD:=hid (ziu c1 d1 hc1 hd1 HA1.out HB1.out (zg A) (zg B) hrA hrB hB0);clear h0
   go_wp2_with fail
   refine HD.out.mono ?_
   rintro e w' ⟨a2,c2,a3,c3,rfl,h3,h4,h5,h6,h7⟩;obtain⟨H6,HB2⟩:=hd2 h6 (HB1.out.below h7);have hb2:=hb.trans (h7.mono hb.size);clear HD h5 h6 h7 HA1 HB1 hb;go_wp2
   go_roundg (A%B)
   case measure=>rw[HGk.out];exact Z7 _ hB0
   case rel=>
    exact En
structure znA (w:World) (v:Value) (z:Int):Prop where
 ex:∃(a:Option Addr) (c:Nat),v=.agg #[.bool (decide (z<0)),.slice a (za z.natAbs).length c]/\(za z.natAbs).length<=c/\zw w a (za z.natAbs)
def zsH(w:World)(z:Int)(e:Ending)(w':World):Prop:=∃v,e=.returned v/\znA w' v z/\Below w.heap.size w w'
theorem zgu(neg:Bool)(n:Nat):decide (sgn neg n<0)=(neg && decide (n≠0)):=by
 cases neg
 ·simp[sgn]
 ·by_cases h:n=0
  ·simp[sgn,h]
  ·simp[sgn,h];omega
theorem znA.mk'{w:World}{a:Option Addr}{c n:Nat}{neg:Bool}(h1:(za n).length<=c)(h2:zw w a (za n)):znA w (.agg #[.bool (neg && decide (n≠0)),.slice a (za n).length c]) (sgn neg n):=
 ⟨a,c,by rw[zgu,zbD],by rw[zbD];exact h1,by rw[zbD];exact h2⟩
theorem zhC{w:World}{a:Option Addr}{l:List Nat}(neg:Bool){n:Nat}(c:Nat)(hc:l.length<=c)(h:zw w a l)(hx:zo l=n)(hr:l.length<=17592186044416):
  Calls Tryz.prog 76 #[.bool neg,.slice a l.length c] w (zsH w (sgn neg n)):=by
 have hB0:=blA w (.cells #[.bool false,.slice none 0 0] 89);have hM:=zdL c hc (h.below hB0) Ya;rw[hx]at hM;have HM:=hid hM;have hR:=za1.alloc w (.bool false) (.slice none 0 0) 89;have hN:=zX.alloc w #[.bool false,.slice none 0 0] 89 Yc;obtain⟨HB,HR,HN⟩:=hd3 hB0 hR hN;clear h hx hB0 hR hN hM
 go_enter Tryz.func76,Tryz.ntmps76
 go_wp2_with fail
 refine HM.out.mono ?_
 rintro e w1 ⟨a1,c1,rfl,h1,h2,hb,_⟩;obtain⟨r0,r1,rf,rlt⟩:=HR.out.below hb;have HN1:=hid (HN.out.below hb Yc);have HB1:=htr HB hb;have H2:=hid h2;clear HM HR HN HB h2 hb
 by_cases hn:n=0
 ·subst hn;have hll:(za 0).length=0:=by rw[zy];rfl
  have hs:sgn neg 0=0:=by cases neg<;>rfl
  rw[hs];rw[zy]at *;clear hs hll;have HC:Hid (∀w',znA w' (.agg #[.bool false,.slice a1 0 c1]) 0):=fun w'=>⟨a1,c1,by simp[zy],by simp[zy],by simp[zy];exact zw.nil _ _⟩
  cases neg <;>
  ·go_wp2;have hbf:=(HB1.out.setCell (p:=⟨w.heap.size,0,none⟩) (Za _) (.bool false)).setCell (p:=⟨w.heap.size,1,none⟩) (Za _) (.slice a1 0 c1);exact Zp (v:=.agg #[.bool false,.slice a1 0 c1]) X6 rfl ⟨_,rfl,HC.out _,hbf⟩
 ·have hp:=zak.2 (Zaz hn);have HDn:=hid (Zk hn);have hd:decide (0<(za n).length)=true:=Zk hp;have HC:Hid (∀w':World,zw w' a1 (za n)->znA w' (.agg #[.bool neg,.slice a1 (za n).length c1]) (sgn neg n)):=fun w' h=>by
   have:=znA.mk' (neg:=neg) h1 h
   rwa [HDn.out,Bool.and_true]at this
  clear hn;cases neg <;>
  ·go_wp2;have hU:∀B:Bool,zw ((w1.setCell ⟨w.heap.size,0,none⟩ (.bool B)).setCell ⟨w.heap.size,1,none⟩ (.slice a1 (za n).length c1)) a1 (za n):=fun B=>(H2.out.setCell HN1.out _ _).setCell (HN1.out.setCell _ _ Yc) _ _
   have hbf:=fun B:Bool=>(HB1.out.setCell (p:=⟨w.heap.size,0,none⟩) (Za _) (.bool B)).setCell (p:=⟨w.heap.size,1,none⟩) (Za _) (.slice a1 (za n).length c1)
   first
    | exact Zp (v:=.agg #[.bool false,.slice a1 (za n).length c1]) X6 rfl ⟨_,rfl,HC.out _ (hU _),hbf _⟩
    | exact Zp (v:=.agg #[.bool true,.slice a1 (za n).length c1]) X6 rfl ⟨_,rfl,HC.out _ (hU _),hbf _⟩
theorem zoC{x:Int}(h1: -9223372036854775808<=x)(h2:x<0):IntKind.u64.wrap (-IntKind.u64.wrap x)=((x.natAbs:Nat):Int):=by
 rw[IntKind.wrap_u64,IntKind.wrap_u64];omega
theorem zbx{n:Nat}(h:n<18446744073709551616):(za n).length<=2:=zaq (Zb h Yd)
theorem zur(w:World)(x:Int)(h1: -9223372036854775808<=x)(h2:x<=9223372036854775807):
  Calls Tryz.prog 47 #[.int .i64 x] w (zsH w x):=by
 have hR:=za1.alloc w (.bool false) (.slice none 0 0) 89;have hN:=zX.alloc w #[.bool false,.slice none 0 0] 89 Yc;obtain⟨HR,HN⟩:=hd2 hR hN;clear hR hN
 by_cases hx:x<0
 ·have hO:=fun wv=>zs5 x.natAbs Ya wv
  rw[<- zoC h1 hx]at hO;have HO:=hid hO;have HX:Hid (sgn true x.natAbs=x):=by unfold Hid sgn;simp;omega
  have hlen:=zbx (n:=x.natAbs) Ya;clear hO
  go_enter Tryz.func47,Tryz.ntmps47
  go_wp2_with fail
  refine(HO.out _).mono ?_
  rintro e w1 ⟨a1,c1,rfl,g1,g2,g3,_⟩;have hM:=zhC true c1 g1 g2 (zg _) Ya;rw[HX.out]at hM;obtain⟨HM,HB,HR1,HN1⟩:=hd4 hM (((Ze _ w).alloc (Za _) (.cells #[.bool false,.slice none 0 0] 89)).trans (g3.mono Yc)) (HR.out.below g3) (HN.out.below g3 Yc);clear HO hM g2 g3 HR HN
  go_wp2_with fail
  refine HM.out.mono ?_
  rintro e w2 ⟨v2,rfl,⟨a2,c2,rfl,k1,k2⟩,hb2⟩;obtain⟨r0,r1,rf,rlt⟩:=HR1.out.below hb2;have HN2:=hid (HN1.out.below hb2 HR1.out.lt);have HB2:=htr HB hb2;have K2:=hid k2;clear HM k2 hb2 HR1 HN1 HB;generalize hB:decide (x<0)=B at *;have HBB:=hid hB;generalize hL:za x.natAbs=L at *;exact UW
 ·obtain⟨n,rfl⟩:∃n:Nat,x=(n:Int):=⟨x.toNat,Ya⟩
  have HO:=hid (fun wv=>zs5 n Ya wv);have HX:Hid (sgn false n=(n:Int)):=rfl;have hlen:=zbx (n:=n) Ya
  go_enter Tryz.func47,Tryz.ntmps47
  go_wp2_with fail
  refine(HO.out _).mono ?_
  rintro e w1 ⟨a1,c1,rfl,g1,g2,g3,_⟩;have hM:=zhC false c1 g1 g2 (zg _) Ya;rw[HX.out]at hM;obtain⟨HM,HB,HR1,HN1⟩:=hd4 hM (((Ze _ w).alloc (Za _) (.cells #[.bool false,.slice none 0 0] 89)).trans (g3.mono Yc)) (HR.out.below g3) (HN.out.below g3 Yc);clear HO hM g2 g3 HR HN
  go_wp2_with fail
  refine HM.out.mono ?_
  rintro e w2 ⟨v2,rfl,⟨a2,c2,rfl,k1,k2⟩,hb2⟩;obtain⟨r0,r1,rf,rlt⟩:=HR1.out.below hb2;have HN2:=hid (HN1.out.below hb2 HR1.out.lt);have HB2:=htr HB hb2;have K2:=hid k2;clear HM k2 hb2 HR1 HN1 HB;generalize hB:decide ((n:Int)<0)=B at *;have HBB:=hid hB;generalize hL:za (n:Int).natAbs=L at *;exact UW
theorem zsX{w:World}{v:Value}{neg:Bool}{n k:Nat}(h:zc8 w v neg n k)(hr:k<=17592186044416):
  Calls Tryz.prog 103 #[v] w fun e w'=>e=.returned (.int .i64 (zdv neg n))/\Below w.heap.size w w':=by
 obtain⟨a,c,l,rfl,h1,h2,h3,h4⟩:=h.ex;have hB0:=blA w (.cells #[.bool neg,.slice a l.length c] 89);obtain⟨HM,HB⟩:=hd2 (zhC neg c h1 (h2.below hB0) h3 Ya) hB0;have hR:=za1.alloc w (.bool neg) (.slice a l.length c) 89;have HR:=hid hR;have hl:=h2.len;clear h h2 hB0 hR h3
 go_enter Tryz.func103,Tryz.ntmps103
 go_wp2_with fail
 refine HM.out.mono ?_
 rintro e w1 ⟨v1,rfl,⟨a1,c1,rfl,g1,g2⟩,hb⟩;obtain⟨r0,r1,rf,rlt⟩:=HR.out.below hb;have f0:=rf 0;have f1:=rf 1;have HB1:=htr HB hb;rw[zbD,zgu];clear HM HR HB hb g2 rf
 by_cases hn:n=0
 ·subst hn;have HS:Hid (zdv neg 0=0):=rfl;rw[zy]at *;go_wp2;go_ret;exact⟨zaD HS.out.symm,(HB1.out.setCell (Za _) _).setCell (Za _) _⟩
 ·have hp:=zak.2 (Zaz hn);have HS:Hid (zdv neg n=if neg then -1 else 1):=by unfold Hid zdv;rw[Zg hn]
  have hz:(((za n).length:Int)==0)=false:=bn0 Ya;have hn1:=Zk hn;rw[zbD]at g1;cases neg <;>
  ·go_wp2;go_ret;exact⟨zaD (by rw[HS.out];rfl),(HB1.out.setCell (Za _) _).setCell (Za _) _⟩
theorem zie{w:World}{a:Option Addr}{l:List Nat}(c:Nat)(hc:l.length<=c)(h:zw w a l)(hr:l.length<=17592186044416):Calls Tryz.prog 75 #[.slice a l.length c] w (zub w (zr l) (l.length+1)):=by
 have hM:=hid (zdL c hc h Ya);have hle:=zG h.lim;have hl:=h.len;clear h
 go_enter Tryz.func75,Tryz.ntmps75
 go_wp2_with fail
 refine hM.out.mono ?_
 rintro e w1 ⟨a1,c1,rfl,h1,h2,h3,_⟩;obtain⟨H2,H3⟩:=hd2 h2 h3;clear hM h2 h3
 by_cases hn:zo l=0
 ·have HU:Hid (zr l=1):=Zm hn;rw[hn,zy]at *;clear hn;go_wp2;go_ret;exact⟨_,1,[1],rfl,Za _,zw.one w1 (b:=1) Ya _,by rw[HU.out];rfl,Yc,H3.out.alloc H3.out.size _⟩
 ·have HU:Hid (zr l=zo l):=Zg hn;have hp:=zak.2 (Zaz hn);have hz:(((za (zo l)).length:Int)==0)=false:=bn0 Ya;clear hn;go_wp2;go_ret;exact⟨a1,c1,za (zo l),rfl,h1,H2.out,by rw[HU.out,zg],Ya,H3.out⟩
theorem RatV.store{w:World}{g:Nat}{x:zaf}{bn bd:Option Addr}{m1 m2:Nat}(hN:zX w g)(h1:x.num.length<=m1)(h2:x.den.length<=m2)(k5:zw w bn x.num)(k6:zw w bd x.den):
  RatV (((w.setCell ⟨g,0,none⟩ (.bool x.neg)).setCell ⟨g,1,none⟩ (.slice bn x.num.length m1)).setCell ⟨g,2,none⟩ (.slice bd x.den.length m2)) (.agg #[.bool x.neg,.slice bn x.num.length m1,.slice bd x.den.length m2]) x:=by
 refine⟨bn,bd,m1,m2,rfl,h1,h2,?_,?_⟩
 ·exact((k5.setCell hN _ _).setCell (hN.setCell _ _ Yc) _ _).setCell ((hN.setCell _ _ Yc).setCell _ _ Yc) _ _
 ·exact((k6.setCell hN _ _).setCell (hN.setCell _ _ Yc) _ _).setCell ((hN.setCell _ _ Yc).setCell _ _ Yc) _ _
theorem zu{n g:Nat}{w w':World}(h:Below n w w')(hg:n<=g)(p q r:Value):Below n w (((w'.setCell ⟨g,0,none⟩ p).setCell ⟨g,1,none⟩ q).setCell ⟨g,2,none⟩ r):=
 ((h.setCell (p:=⟨g,0,none⟩) hg p).setCell (p:=⟨g,1,none⟩) hg q).setCell (p:=⟨g,2,none⟩) hg r
theorem zeb:za 1=[1]:=by rw[zdc Ya,zy]
theorem zkM{w:World}{a b:Option Addr}{l m:List Nat}(neg:Bool)(c e:Nat)(hc:l.length<=c)(he:m.length<=e)(h:zw w a l)(g:zw w b m){n d:Nat}(hx:zo l=n)(hy:zo m=d)(hr:l.length<=2097152)(hr2:m.length<=2097152)(hd:0<d):
  Calls Tryz.prog 74 #[.bool neg,.slice a l.length c,.slice b m.length e] w (zcj w (zbw neg n d)):=by
 have hR:=za4.alloc w (.bool false) (.slice none 0 0) (.slice none 0 0) 51;have hN:=zX.alloc w #[.bool false,.slice none 0 0,.slice none 0 0] 51 Yc;have hB0:=blA w (zc9 51);have HG:=hid (ztG c e hc he (h.below hB0) (g.below hB0) hx hy hr hr2);have hgp:0<Nat.gcd n d:=Nat.gcd_pos_of_pos_right n hd;have hgl:(za (Nat.gcd n d)).length<=m.length:=by
  refine Zi (zaC (Nat.gcd_le_right n hd)) ?_
  rw[<- hy];exact zG g.lim
 have hD1:=fun wv (hu:zw wv a l) a1 c1 hc1 (hg:zw wv a1 (za (Nat.gcd n d)))=>ziu c c1 hc hc1 hu hg hx (zg _) hr Ya hgp
 have hD2:=fun wv (hu:zw wv b m) a1 c1 hc1 (hg:zw wv a1 (za (Nat.gcd n d)))=>ziu e c1 he hc1 hu hg hy (zg _) hr2 Ya hgp
 obtain⟨HD1,HD2,HR,HN,HB0,HH⟩:=hd6 hD1 hD2 hR hN hB0 (h.below hB0);have HGG:=hid (g.below hB0);have HQ:Hid (zbw neg n d=⟨neg && decide (0<(za (n/Nat.gcd n d)).length),za (n/Nat.gcd n d),if d/Nat.gcd n d=1 then[]else za (d/Nat.gcd n d)⟩):=by
  unfold Hid zbw
  congr 2
  rw[decide_eq_decide,zak];obtain⟨k,hk⟩:=Nat.gcd_dvd_left n d;generalize Nat.gcd n d=G at *;subst hk;rw[Nat.mul_div_cancel_left _ hgp]
  constructor
  ·intro h;exact Zaz (fun e=>h (by rw[e,Nat.mul_zero]))
  ·intro h e
   rcases Nat.mul_eq_zero.1 e with h1|h1<;>omega
 have hdp:0<d/Nat.gcd n d:=Nat.div_pos (Nat.gcd_le_right n hd) hgp;clear h g hx hy hR hN hB0 hD1 hD2 hd;generalize Nat.gcd n d=G at *
 go_enter Tryz.func74,Tryz.ntmps74
 go_wp2_with fail
 refine HG.out.mono ?_
 rintro ee w1 ⟨a1,c1,rfl,h1,h2,hb1⟩;obtain⟨D1,HG1,H2,HR1,HN1⟩:=hd5 (HD1.out w1 (HH.out.below hb1) a1 c1 h1 h2) (HGG.out.below hb1) h2 (HR.out.below hb1) (HN.out.below hb1 HR.out.lt);have HB1:=htr HB0 hb1;clear HG HH HGG h2 HR HN HB0 hb1 HD1
 go_wp2_with fail
 refine D1.out.mono ?_
 rintro ee w2 ⟨a2,c2,a2',c2',rfl,k1,k2,k3,k4,hb2⟩;obtain⟨D2,K3,HR2,HN2⟩:=hd4 (HD2.out w2 (HG1.out.below hb2) a1 c1 h1 (H2.out.below hb2)) k3 (HR1.out.below hb2) (HN1.out.below hb2 HR1.out.lt);have HB2:=htr HB1 hb2;clear D1 HG1 H2 HR1 HN1 HB1 k3 k4 hb2 HD2
 go_wp2_with fail
 refine D2.out.mono ?_
 rintro ee w3 ⟨a3,c3,a3',c3',rfl,j1,j2,j3,j4,hb3⟩;obtain⟨K3',J3⟩:=hd2 (K3.out.below hb3) j3;obtain⟨r0,r1,r2,rf,rlt⟩:=HR2.out.below hb3;have HN3:=hid (HN2.out.below hb3 HR2.out.lt);have HB3:=htr HB2 hb3;have hj:=hid j3;clear D2 K3 HR2 HN2 HB2 j4 hb3;generalize za (n/G)=L at *;have hneg:∀B:Bool,B=(neg && decide (0<L.length))->True:=fun _ _=>trivial
 clear hneg
 by_cases h1:d/G=1
 ·have HQ1:=hid (HQ.out);rw[Zm h1]at HQ1;have hl1:(za (d/G)).length=1:=by rw[h1,zeb];rfl
  obtain⟨p1,o1,rfl,hp1,q1⟩:=j3.pick (show 0<(za (d/G)).length from Ya);have hdg:dig (za (d/G)) 0=1:=by rw[h1,zeb];rfl
  rw[hdg,ZU]at q1;have hbe:∀B:Bool,Below w.heap.size w (((w3.setCell ⟨w.heap.size,0,none⟩ (.bool B)).setCell ⟨w.heap.size,1,none⟩ (.slice a2 L.length c2)).setCell ⟨w.heap.size,2,none⟩ (.slice none 0 0)):=fun B=>zu HB3.out (Za _) _ _ _
  have hst:=fun B:Bool=>RatV.store (x:=⟨B,L,[]⟩) (bd:=none) (m2:=0) HN3.out k1 (Za _) K3'.out (zw.nil _ _)
  obtain⟨HBE,HST⟩:=hd2 hbe hst;rw[hl1]at j1⊢;clear hl1 hdg h1 j3 hbe hst;cases hL:decide (0<L.length)
  ·cases neg <;>
   ·exact ES
  ·cases neg
   ·exact ES
   ·go_wp2;exact Zp (v:=.agg #[.bool true,.slice a2 L.length c2,.slice none 0 0]) Yr rfl ⟨_,rfl,VA,HBE.out true⟩
 ·have HQ1:=hid (HQ.out);rw[Zg h1]at HQ1;have hbe:∀B:Bool,Below w.heap.size w (((w3.setCell ⟨w.heap.size,0,none⟩ (.bool B)).setCell ⟨w.heap.size,1,none⟩ (.slice a2 L.length c2)).setCell ⟨w.heap.size,2,none⟩ (.slice a3 (za (d/G)).length c3)):=fun B=>zu HB3.out (Za _) _ _ _
  have hst:=fun B:Bool=>RatV.store (x:=⟨B,L,za (d/G)⟩) HN3.out k1 j1 K3'.out J3.out
  obtain⟨HBE,HST⟩:=hd2 hbe hst
  by_cases hl1:(za (d/G)).length=1
  ·obtain⟨p1,o1,rfl,hp1,q1⟩:=j3.pick (show 0<(za (d/G)).length from Ya);have hd1:=zh1 hl1;have hne:((dig (za (d/G)) 0:Int)==1)=false:=bn0 Ya;rw[ZU]at q1;generalize dig (za (d/G)) 0=dg at *;clear h1 j3 hbe hst hd1 hdp;generalize hLd:za (d/G)=LD at *;have hst1:=HST.out;have hbe1:=HBE.out;simp only[hl1]at hst1 hbe1;obtain⟨HST1,HBE1⟩:=hd2 hst1 hbe1;rw[hl1]at j1⊢;clear hLd hl1 hst1 hbe1;cases hL:decide (0<L.length)
   ·cases neg <;>
    ·exact E8
   ·cases neg
    ·exact E8
    ·go_wp2;exact Zp (v:=.agg #[.bool true,.slice a2 L.length c2,.slice (some ⟨p1,o1,none⟩) 1 c3]) Yr rfl ⟨_,rfl,by rw[HQ1.out,hL];exact HST1.out true,HBE1.out true⟩
  ·have hne:(((za (d/G)).length:Int)==1)=false:=bn0 Ya;clear h1 j3 hbe hst hdp hl1;cases hL:decide (0<L.length)
   ·cases neg <;>
    ·exact E9
   ·cases neg
    ·exact E9
    ·go_wp2;exact Zp (v:=.agg #[.bool true,.slice a2 L.length c2,.slice a3 (za (d/G)).length c3]) Yr rfl ⟨_,rfl,VA,HBE.out true⟩
theorem zeJ{w:World}{v:Value}{x:zaf}(h:RatV w v x)(hr:zD x 1048576):Calls Tryz.prog 45 #[v] w (zcj w (zaF x)):=by
 obtain⟨an,ad,cn,cd,hv,h2,h3,h4,h5⟩:=h.ex;obtain⟨hr1,hr2⟩:=hr;have hl1:=h4.len;have hl2:=h5.len;obtain⟨H4,H5⟩:=hd2 h4 h5;rw[hv];clear h h4 h5 hv
 go_enter Tryz.func45,Tryz.ntmps45
 go_wp2_with fail
 have hB0:Below w.heap.size w ((w.alloc (zbb x an cn ad cd 51)).alloc (zc9 51)):=
  ((Ze _ _).alloc (Za _) _).alloc Yc _
 have hX:za4 ((w.alloc (zbb x an cn ad cd 51)).alloc (zc9 51)) w.heap.size (.bool x.neg) (.slice an x.num.length cn) (.slice ad x.den.length cd):=
  (za4.alloc w _ _ _ _).below ((Ze _ _).alloc (Za _) _)
 have hR:za4 ((w.alloc (zbb x an cn ad cd 51)).alloc (zc9 51)) (w.heap.size+1) (.bool false) (.slice none 0 0) (.slice none 0 0):=Ib;have hN:zX ((w.alloc (zbb x an cn ad cd 51)).alloc (zc9 51)) (w.heap.size+1):=EZ;generalize(w.alloc (zbb x an cn ad cd 51)).alloc (zc9 51)=W at *;obtain⟨H52,H42⟩:=hd2 (H5.out.below hB0) (H4.out.below hB0);obtain⟨x0,x1,x2,xf,xlt⟩:=hX;obtain⟨HR,HNo,HB⟩:=hd3 hR hN hB0;have xbl:Below W.heap.size W W.drew:=(Ze _ _).drew;clear hR hN hB0 xf H5 H4
 go_region_held3 (fun w'=>w'.cell? ⟨w.heap.size,0,none⟩=some (.bool x.neg)/\w'.cell? ⟨w.heap.size,1,none⟩=some (.slice an x.num.length cn)/\w'.cell? ⟨w.heap.size,2,none⟩=some (.slice ad x.den.length cd))
  (first|exact zky x0 x1 x2 xlt ‹Below W.heap.size W _› | go_keep)
  (first
   | (go_at_call 75; have hS := ‹Below W.heap.size W _›; refine (zie cd h3 (H52.out.below hS) Ya).mono ?_; rintro e w1 ⟨a1, c1, l1, rfl, g1, g2, g3, g4, g5⟩
      have hS1:=hS.trans (g5.mono hS.size))
   | (go_at_call 74; have hS := ‹Below W.heap.size W _›; refine (zkM x.neg cn c1 h2 g1 (H42.out.below hS) g2 rfl g3 Ya Ya (zU _)).mono ?_
      rintro e w2 ⟨v2,rfl,⟨bn,bd,m1,m2,rfl,k3,k4,k5,k6⟩,k2⟩;have hS2:=hS.trans (k2.mono hS.size);obtain⟨r0,r1,r2,rf,rlt⟩:=HR.out.below hS2;obtain⟨hN2,K5,K6⟩:=hd3 (HNo.out.below hS2 HR.out.lt) k5 k6;have hB2:=htr HB hS2))
 go_wp2;exact Zp (v:=.agg #[.bool (zaF x).neg,.slice bn (zaF x).num.length m1,.slice bd (zaF x).den.length m2]) (by simp[results,Tryz.results45,go_sem,r0,r1,r2,zaF]) rfl ⟨_,rfl,RatV.store hN2.out k3 k4 K5.out K6.out,zu hB2.out (Zaj _) _ _ _⟩
structure zkJ (w W:World) (g:Nat) (p q r s t u:Value):Prop where
 a:za4 W g p q r
 b:za4 W (g+1) s t u
 c:za4 W (g+1+1) (.bool false) (.slice none 0 0) (.slice none 0 0)
 nc:zX W (g+1+1)
 bl:Below g w W
theorem zkJ.mk'(w:World)(p q r s t u:Value)(T:Nat):zkJ w (((w.alloc (.cells #[p,q,r] T)).alloc (.cells #[s,t,u] T)).alloc (.cells #[.bool false,.slice none 0 0,.slice none 0 0] T)) w.heap.size p q r s t u:=by
 have step:∀(W:World) (o:Obj),Below W.heap.size W (W.alloc o):=fun W o=>(Ze _ _).alloc (Za _) _
 have s1:=step w (.cells #[p,q,r] T);have s2:=step (w.alloc (.cells #[p,q,r] T)) (.cells #[s,t,u] T);have s3:=step ((w.alloc (.cells #[p,q,r] T)).alloc (.cells #[s,t,u] T)) (.cells #[.bool false,.slice none 0 0,.slice none 0 0] T);have b1:=za4.alloc w p q r T;have b2:=za4.alloc (w.alloc (.cells #[p,q,r] T)) s t u T;have b3:=za4.alloc ((w.alloc (.cells #[p,q,r] T)).alloc (.cells #[s,t,u] T)) (.bool false) (.slice none 0 0) (.slice none 0 0) T;have n3:=zX.alloc ((w.alloc (.cells #[p,q,r] T)).alloc (.cells #[s,t,u] T)) #[.bool false,.slice none 0 0,.slice none 0 0] T Yc;exact Tq
theorem zpY{w:World}{v u:Value}{x y:zaf}(hv:RatV w v x)(hu:RatV w u y)(hx:zD x 1048575)(hy:zD y 1048575):
  Calls Tryz.prog 80 #[v,u] w (zcj w (zc (zT x*zT y))):=by
 obtain⟨an,ad,cn,cd,rfl,a2,a3,a4,a5⟩:=hv.ex;obtain⟨bn,bd,dn,dd,rfl,b2,b3,b4,b5⟩:=hu.ex;have hQ:Hid (zc (zT x*zT y)=zbw (x.neg != y.neg) (zo x.num*zo y.num) (zr x.den*zr y.den)):=I8;obtain⟨hx1,hx2⟩:=hx;obtain⟨hy1,hy2⟩:=hy;have hl1:=a4.len;have hl2:=a5.len;have hl3:=b4.len;have hl4:=b5.len;obtain⟨A4,A5,B4,B5⟩:=hd4 a4 a5 b4 b5;have hml:(za (zo x.num*zo y.num)).length<=2097152:=Zi (zcO rfl rfl hx1 hy1 a4.lim b4.lim) Ya;have hdp:0<zr x.den*zr y.den:=Zak (zU _) (zU _);have HDp:=hid hdp;clear hv hu a4 a5 b4 b5 hdp
 go_enter Tryz.func80,Tryz.ntmps80
 go_wp2_with fail
 have hF:=zkJ.mk' w (.bool x.neg) (.slice an x.num.length cn) (.slice ad x.den.length cd) (.bool y.neg) (.slice bn y.num.length dn) (.slice bd y.den.length dd) 51;generalize((w.alloc (zbb x an cn ad cd 51)).alloc (zbb y bn dn bd dd 51)).alloc (zc9 51)=W at *;obtain⟨HF,HA4,HA5,HB4,HB5⟩:=hd5 hF (A4.out.below hF.bl) (A5.out.below hF.bl) (B4.out.below hF.bl) (B5.out.below hF.bl);have xbl:Below W.heap.size W W.drew:=(Ze _ _).drew;have tok1:True:=trivial;have tok2:True:=trivial;clear hF A4 A5 B4 B5
 go_region_held3 (fun w'=>w'.cell? ⟨w.heap.size,0,none⟩=some (.bool x.neg)/\w'.cell? ⟨w.heap.size,1,none⟩=some (.slice an x.num.length cn)/\w'.cell? ⟨w.heap.size,2,none⟩=some (.slice ad x.den.length cd)/\
   w'.cell? ⟨w.heap.size+1,0,none⟩=some (.bool y.neg)/\w'.cell? ⟨w.heap.size+1,1,none⟩=some (.slice bn y.num.length dn)/\w'.cell? ⟨w.heap.size+1,2,none⟩=some (.slice bd y.den.length dd))
  (first|exact za8 HF.out.a HF.out.b HF.out.a.lt HF.out.b.lt ‹Below W.heap.size W _› | exact za8 (B:=w.heap.size+1+1) HF.out.a HF.out.b (Nat.lt_succ_of_lt (Zaa _)) (Zaa _) (zu (hS5.mono (Zan HF.out.c.lt)) (Za _) _ _ _))
  (first
   | (go_at_call 108; have _t := tok1; clear tok1; have hS := ‹Below W.heap.size W _›; refine (zkG cn dn (HA4.out.below hS) (HB4.out.below hS) rfl rfl Ya).mono ?_; rintro e w1 ⟨a1, c1, rfl, g1, g2, g3, _⟩
      have hS1:=hS.trans (g3.mono hS.size);have G2:=hid g2;clear g2)
   | (go_at_call 75; have _t := tok2; clear tok2; have hS := ‹Below W.heap.size W _›; refine (zie cd a3 (HA5.out.below hS) Ya).mono ?_; rintro e w2 ⟨a2', c2, l2, rfl, p1, p2, p3, p4, p5⟩
      have hS2:=hS.trans (p5.mono hS.size);have G2b:=hid (G2.out.below p5);have P2:=hid p2;have P3:=hid p3;clear p2 p3)
   | (go_at_call 75; have hS := ‹Below W.heap.size W _›; refine (zie dd b3 (HB5.out.below hS) Ya).mono ?_; rintro e w3 ⟨a3', c3, l3, rfl, q1, q2, q3, q4, q5⟩
      have hS3:=hS.trans (q5.mono hS.size);have G2c:=hid (G2b.out.below q5);have P2b:=hid (P2.out.below q5);have Q2:=hid q2;have Q3:=hid q3;clear q2 q3)
   | (go_at_call 108; have hS := ‹Below W.heap.size W _›; refine (zkG c2 c3 P2b.out Q2.out P3.out Q3.out Ya).mono ?_; rintro e w4 ⟨a4, c4, rfl, t1, t2, t3, _⟩
      have hS4:=hS.trans (t3.mono hS.size);have G2d:=hid (G2c.out.below t3);have T2:=hid t2;clear t2;have hdl:(za (zr x.den*zr y.den)).length<=2097152:=Zi (zcO P3.out Q3.out p4 q4 P2b.out.lim Q2.out.lim) Ya)
   | (go_at_call 74; have hS := ‹Below W.heap.size W _›; refine (zkM (x.neg != y.neg) c1 c4 g1 t1 G2d.out T2.out (zg _) (zg _) hml hdl HDp.out).mono ?_
      rintro e w5 ⟨v5,rfl,⟨bn',bd',m1,m2,rfl,k3,k4,k5,k6⟩,k2⟩;have hS5:=hS.trans (k2.mono hS.size);obtain⟨r0,r1,r2,rf,rlt⟩:=HF.out.c.below hS5;obtain⟨hN5,K5,K6⟩:=hd3 (HF.out.nc.below hS5 HF.out.c.lt) k5 k6;have hB5:=hid (HF.out.bl.trans (hS5.mono Yv))))
 generalize zbw (x.neg != y.neg) (zo x.num*zo y.num) (zr x.den*zr y.den)=R at *;go_wp2;exact Zp (v:=.agg #[.bool R.neg,.slice bn' R.num.length m1,.slice bd' R.den.length m2]) (by simp[results,Tryz.results80,go_sem,r0,r1,r2]) rfl ⟨_,rfl,YW,zu hB5.out Ya _ _ _⟩
structure zrc (w W:World) (g:Nat) (p q r s:Value):Prop where
 a:za1 W g p q
 b:za1 W (g+1) r s
 c:za1 W (g+1+1) (.bool false) (.slice none 0 0)
 nc:zX W (g+1+1)
 bl:Below g w W
theorem zrc.mk'(w:World)(p q r s:Value)(T:Nat):zrc w (((w.alloc (.cells #[p,q] T)).alloc (.cells #[r,s] T)).alloc (.cells #[.bool false,.slice none 0 0] T)) w.heap.size p q r s:=by
 have step:∀(W:World) (o:Obj),Below W.heap.size W (W.alloc o):=fun W o=>(Ze _ _).alloc (Za _) _
 have s1:=step w (.cells #[p,q] T);have s2:=step (w.alloc (.cells #[p,q] T)) (.cells #[r,s] T);have s3:=step ((w.alloc (.cells #[p,q] T)).alloc (.cells #[r,s] T)) (.cells #[.bool false,.slice none 0 0] T);have b1:=za1.alloc w p q T;have b2:=za1.alloc (w.alloc (.cells #[p,q] T)) r s T;have b3:=za1.alloc ((w.alloc (.cells #[p,q] T)).alloc (.cells #[r,s] T)) (.bool false) (.slice none 0 0) T;have n3:=zX.alloc ((w.alloc (.cells #[p,q] T)).alloc (.cells #[r,s] T)) #[.bool false,.slice none 0 0] T Yc;exact Tq
theorem zav{n g:Nat}{w w':World}(h:Below n w w')(hg:n<=g)(p q:Value):Below n w ((w'.setCell ⟨g,0,none⟩ p).setCell ⟨g,1,none⟩ q):=
 (h.setCell (p:=⟨g,0,none⟩) hg p).setCell (p:=⟨g,1,none⟩) hg q
theorem znA.store{w:World}{g:Nat}{z:Int}{a:Option Addr}{c:Nat}(hN:zX w g)(h1:(za z.natAbs).length<=c)(k:zw w a (za z.natAbs)):
  znA ((w.setCell ⟨g,0,none⟩ (.bool (decide (z<0)))).setCell ⟨g,1,none⟩ (.slice a (za z.natAbs).length c)) (.agg #[.bool (decide (z<0)),.slice a (za z.natAbs).length c]) z:=
 ⟨a,c,rfl,h1,(k.setCell hN _ _).setCell (hN.setCell _ _ Yc) _ _⟩
theorem zjV{l m:List Nat}{N:Nat}(hl:Lim l)(hm:Lim m)(h1:l.length<=N)(h2:m.length<=N):(za (zo l+zo m)).length<=N+1:=by
 refine zaq ?_
 have e1:=Zb (zct hl) (Zt (show 0<4294967296 from Ya) h1);have e2:=Zb (zct hm) (Zt (show 0<4294967296 from Ya) h2);rw[Zas];omega
theorem zf1(b:Bool)(x y:Nat):sgn b (x+y)=sgn b x+sgn b y:=by cases b<;>simp[sgn]<;>omega
theorem zhB{a b:Bool}(h:a≠b){x y:Nat}(hxy:y<=x):sgn a (x-y)=sgn a x+sgn b y:=by
 cases a<;>cases b<;>simp[sgn]at h⊢ <;> omega
theorem zhM{a b:Bool}(h:a≠b){x y:Nat}(hxy:x<y):sgn b (y-x)=sgn a x+sgn b y:=by
 cases a<;>cases b<;>simp[sgn]at h⊢ <;> omega
theorem zmx{w:World}{v u:Value}{n1:Bool}{x y k1 k2:Nat}(hv:zc8 w v n1 x k1)(hu:zc8 w u n1 y k2)(hr1:k1<=4194304)(hr2:k2<=4194304):
  Calls Tryz.prog 109 #[v,u] w (zsH w (sgn n1 x+sgn n1 y)):=by
 obtain⟨a,c,l,rfl,h1,h2,h3,h4⟩:=hv.ex;obtain⟨b,d,m,rfl,g1,g2,g3,g4⟩:=hu.ex;have hl1:=h2.len;have hl2:=g2.len;obtain⟨H2,G2,H3,G3⟩:=hd4 h2 g2 h3 g3;have hsl:(za (x+y)).length<=4194305:=by rw[<- h3,<- g3];exact zjV h2.lim g2.lim Ya Ya
 rw[<- zf1];clear hv hu h2 g2 h3 g3
 go_enter Tryz.func109,Tryz.ntmps109
 have hF:=zrc.mk' w (.bool n1) (.slice a l.length c) (.bool n1) (.slice b m.length d) 89;go_wp2;generalize((w.alloc (.cells #[.bool n1,.slice a l.length c] 89)).alloc (.cells #[.bool n1,.slice b m.length d] 89)).alloc (.cells #[.bool false,.slice none 0 0] 89)=W at *;obtain⟨HF,HH2,HG2⟩:=hd3 hF (H2.out.below hF.bl) (G2.out.below hF.bl);have xbl:Below W.heap.size W W.drew:=(Ze _ _).drew;clear hF H2 G2
 go_region_held3 (fun w'=>w'.cell? ⟨w.heap.size,0,none⟩=some (.bool n1)/\w'.cell? ⟨w.heap.size,1,none⟩=some (.slice a l.length c)/\w'.cell? ⟨w.heap.size+1,0,none⟩=some (.bool n1)/\w'.cell? ⟨w.heap.size+1,1,none⟩=some (.slice b m.length d))
  (first|exact zgp HF.out.a HF.out.b ‹Below W.heap.size W _› | exact zgN HF.out.a HF.out.b ‹Below W.heap.size W _› _ _)
  (first
   | (go_at_call 144; have hS := ‹Below W.heap.size W _›; refine (zss c d (HH2.out.below hS) (HG2.out.below hS) H3.out G3.out Ya Ya).mono ?_; rintro e w1 ⟨a1, c1, rfl, p1, p2, p3, _⟩
      have hS1:=hS.trans (p3.mono hS.size))
   | (go_at_call 76; have hS := ‹Below W.heap.size W _›; refine (zhC n1 c1 p1 p2 (zg _) Ya).mono ?_
      rintro e w2 ⟨v2,rfl,⟨a3,c3,rfl,q1,q2⟩,q5⟩;have hS2:=hS.trans (q5.mono hS.size);obtain⟨r0,r1,rf,rlt⟩:=HF.out.c.below hS2;obtain⟨hN2,Q2⟩:=hd2 (HF.out.nc.below hS2 HF.out.c.lt) q2;have hB2:=hid (HF.out.bl.trans (hS2.mono Yv))))
 obtain⟨HI,HBf⟩:=hd2 (znA.store hN2.out q1 Q2.out) (zav (p:=.bool (decide (sgn n1 (x+y)<0))) (q:=.slice a3 (za (sgn n1 (x+y)).natAbs).length c3) hB2.out (show w.heap.size<=w.heap.size+1+1 from Ya));generalize decide (sgn n1 (x+y)<0)=B at *;generalize(za (sgn n1 (x+y)).natAbs).length=L at *;go_wp2;exact Zp (v:=.agg #[.bool B,.slice a3 L c3]) (by simp[results,Tryz.results109,go_sem,r0,r1]) rfl ⟨_,rfl,HI.out,HBf.out⟩
theorem zlU{w:World}{v u:Value}{n1 n2:Bool}{x y k1 k2:Nat}(hv:zc8 w v n1 x k1)(hu:zc8 w u n2 y k2)(hn:n1≠n2)(hr1:k1<=4194304)(hr2:k2<=4194304):
  Calls Tryz.prog 109 #[v,u] w (zsH w (sgn n1 x+sgn n2 y)):=by
 obtain⟨a,c,l,rfl,h1,h2,h3,h4⟩:=hv.ex;obtain⟨b,d,m,rfl,g1,g2,g3,g4⟩:=hu.ex;have hl1:=h2.len;have hl2:=g2.len;obtain⟨H2,G2,H3,G3⟩:=hd4 h2 g2 h3 g3;have hne:(n1==n2)=false:=by simpa using hn
 have HN:=hid hn;have hlx:(za x).length<=4194304:=by have:=zG h2.lim;rw[h3]at this;omega
 have hly:(za y).length<=4194304:=by have:=zG g2.lim;rw[g3]at this;omega
 clear hv hu h2 g2 h3 g3 hn
 go_enter Tryz.func109,Tryz.ntmps109
 have hF:=zrc.mk' w (.bool n1) (.slice a l.length c) (.bool n2) (.slice b m.length d) 89
 go_wp2_with fail
 generalize((w.alloc (.cells #[.bool n1,.slice a l.length c] 89)).alloc (.cells #[.bool n2,.slice b m.length d] 89)).alloc (.cells #[.bool false,.slice none 0 0] 89)=W at *;obtain⟨HF,HH2,HG2⟩:=hd3 hF (H2.out.below hF.bl) (G2.out.below hF.bl);have HS1:=hid (zq1 c d HH2.out HG2.out H3.out G3.out Ya Ya);clear hF H2 G2 hne
 refine HS1.out.mono ?_
 rintro e w1 (⟨hlt,rfl,hb1⟩|⟨hge,hb1,a1,c1,rfl,p1,p2,_⟩)
 ·obtain⟨r0,r1,rf,rlt⟩:=HF.out.a.below hb1;obtain⟨s0,s1,sf,slt⟩:=HF.out.b.below hb1;obtain⟨HB1,HS2⟩:=hd2 hb1 (zq1 d c (HG2.out.below hb1) (HH2.out.below hb1) G3.out H3.out Ya Ya);clear hb1 HS1 rf sf
  go_wp2_with fail
  refine HS2.out.mono ?_
  rintro e w2 (⟨hlt2,_⟩|⟨hge,hb2,a1,c1,rfl,p1,p2,_⟩)
  ·omega
  obtain⟨r0',r1',rf,rlt'⟩:=HF.out.a.below (HB1.out.trans (hb2.mono HB1.out.size));obtain⟨s0',s1',sf,slt'⟩:=HF.out.b.below (HB1.out.trans (hb2.mono HB1.out.size));have HB2:=htr HB1 hb2;have hM:=zhC n2 c1 p1 p2 (zg _) Jg;rw[zhM HN.out hlt]at hM;have HM:=hid hM;clear hM hb2 HS2 p2 HB1 r0 r1 s0 s1 rlt slt rf sf;exact UP
 ·obtain⟨r0,r1,rf,rlt⟩:=HF.out.a.below hb1;obtain⟨s0,s1,sf,slt⟩:=HF.out.b.below hb1;have HB2:=hid hb1;have hM:=zhC n1 c1 p1 p2 (zg _) Jh;rw[zhB HN.out hge]at hM;have HM:=hid hM;clear hM hb1 HS1 p2 rf sf;exact UP
theorem ztn{w:World}{v u:Value}{n1 n2:Bool}{x y k1 k2:Nat}(hv:zc8 w v n1 x k1)(hu:zc8 w u n2 y k2)(hr1:k1<=4194304)(hr2:k2<=4194304):
  Calls Tryz.prog 109 #[v,u] w (zsH w (sgn n1 x+sgn n2 y)):=by
 by_cases hn:n1=n2
 ·subst hn;exact zmx hv hu hr1 hr2
 ·exact zlU hv hu hn hr1 hr2
structure Fro (B:Nat) (W0 w:World):Prop where
 base:B<=w.heap.size
 be:Below B W0 w
theorem Fro.start{B:Nat}{W0:World}(h:B<=W0.heap.size):Fro B W0 W0.drew:=⟨h,(Ze _ _).drew⟩
theorem Fro.alloc{B:Nat}{W0 w:World}(h:Fro B W0 w)(o:Obj):Fro B W0 (w.alloc o):=⟨by have:=h.base;simp;omega,h.be.alloc h.base o⟩
def prG(ga gb:Nat)(neg:Bool)(vn vd:Value)(N dn kd B:Nat)(i:Nat)(v:Value)(w:World):Prop:=
 match i with
 | 0=>v=.pointer (some ⟨ga,0,none⟩)
 | 1=>v=.bool neg
 | 2=>v=.pointer (some ⟨ga,1,none⟩)
 | 3=>v=vn
 | 4=>v=.pointer (some ⟨gb,2,none⟩)
 | 5=>v=vd
 | 6=>∃a c l,v=.slice a l.length c/\l.length<=c/\Hid (zw w a l)/\Hid (zo l=dn)/\l.length<=kd
 | 7=>∃a c,v=.slice a (za N).length c/\(za N).length<=c/\Hid (zw w a (za N))
 | 8=>∃a c,v=.agg #[.bool neg,.slice a (za N).length c]/\(za N).length<=c/\Hid (zw w a (za N))
 | 9=>∃g,B<=g/\v=.pointer (some ⟨g,0,none⟩)/\za1 w g (.bool false) (.slice none 0 0)/\zX w g
 | _=>True
theorem zjo{ga gb:Nat}{neg:Bool}{vn vd:Value}{N dn kd B i:Nat}{v:Value}{w w':World}(h:prG ga gb neg vn vd N dn kd B i v w)(hb:Below w.heap.size w w'):prG ga gb neg vn vd N dn kd B i v w':=by
 match i,h with
 | 0,h=>exact h
 | 1,h=>exact h
 | 2,h=>exact h
 | 3,h=>exact h
 | 4,h=>exact h
 | 5,h=>exact h
 | 6,⟨a,c,l,h1,h2,h3,h4,h5⟩=>exact⟨a,c,l,h1,h2,h3.out.below hb,h4,h5⟩
 | 7,⟨a,c,h1,h2,h3⟩=>exact⟨a,c,h1,h2,h3.out.below hb⟩
 | 8,⟨a,c,h1,h2,h3⟩=>exact⟨a,c,h1,h2,h3.out.below hb⟩
 | 9,⟨g,h1,h2,h3,h4⟩=>exact⟨g,h1,h2,h3.below hb,h4.below hb h3.lt⟩
 | _+10,_=>trivial
theorem zkJ.below{w W W':World}{g:Nat}{p q r s t u:Value}(h:zkJ w W g p q r s t u)(hb:Below W.heap.size W W'):zkJ w W' g p q r s t u:=
 ⟨h.a.below hb,h.b.below hb,h.c.below hb,h.nc.below hb h.c.lt,h.bl.trans (hb.mono (by have:=h.a.lt;omega))⟩
theorem za1.store{w:World}{g:Nat}{p q:Value}(h:za1 w g p q)(p' q':Value):za1 ((w.setCell ⟨g,0,none⟩ p').setCell ⟨g,1,none⟩ q') g p' q':=by
 refine⟨?_,?_,?_,?_⟩
 ·rw[ZA _ _ _ _ Yo];exact I2
 ·refine Z3 _ _ _ (u:=q) ?_
  rw[ZA _ _ _ _ Yo];exact h.c1
 ·intro o;simp[Zai,h.free]
 ·simpa using h.lt
theorem zw.store2{w:World}{g:Nat}{a:Option Addr}{l:List Nat}(h:zw w a l)(hN:zX w g)(b:Bool)(x:Option Addr)(n c:Nat):zw ((w.setCell ⟨g,0,none⟩ (.bool b)).setCell ⟨g,1,none⟩ (.slice x n c)) a l:=
 (h.setCell hN _ _).setCell (hN.setCell _ _ Yc) _ _
theorem zmp(z:Int):sgn (decide (z<0)) z.natAbs=z:=by
 unfold sgn
 by_cases h:z<0
 ·rw[Zk h];simp;omega
 ·rw[Zj h];simp;omega
theorem zlk(d:List Nat)(h:Lim d):(za (zr d)).length<=d.length+1:=by
 unfold zr
 split
 ·rw[zeb];simp
 ·have:=zG h;omega
theorem zmM{w W w1:World}{gs g:Nat}{p q a b c d e f:Value}(h:za1 W gs p q)(hF:zkJ w W g a b c d e f)(hb:Below W.heap.size W w1):
  w1.cell? ⟨gs,0,none⟩=some p/\w1.cell? ⟨gs,1,none⟩=some q/\w1.cell? ⟨g,2,none⟩=some c/\w1.cell? ⟨g+1,2,none⟩=some f:=
 ⟨(hb.cell h.lt).trans h.c0,(hb.cell h.lt).trans h.c1,(hb.cell hF.a.lt).trans hF.a.c2,(hb.cell hF.b.lt).trans hF.b.c2⟩
theorem zpI{w W w1:World}{gs g:Nat}{p q a b c d e f:Value}(h:za1 W gs p q)(hF:zkJ w W g a b c d e f)(hb:Below W.heap.size W w1)(hne:g+1+1<gs)(x y z:Value):
  (((w1.setCell ⟨g+1+1,0,none⟩ x).setCell ⟨g+1+1,1,none⟩ y).setCell ⟨g+1+1,2,none⟩ z).cell? ⟨gs,0,none⟩=some p/\(((w1.setCell ⟨g+1+1,0,none⟩ x).setCell ⟨g+1+1,1,none⟩ y).setCell ⟨g+1+1,2,none⟩ z).cell? ⟨gs,1,none⟩=some q/\
  (((w1.setCell ⟨g+1+1,0,none⟩ x).setCell ⟨g+1+1,1,none⟩ y).setCell ⟨g+1+1,2,none⟩ z).cell? ⟨g,2,none⟩=some c/\(((w1.setCell ⟨g+1+1,0,none⟩ x).setCell ⟨g+1+1,1,none⟩ y).setCell ⟨g+1+1,2,none⟩ z).cell? ⟨g+1,2,none⟩=some f:=by
 obtain⟨h1,h2,h3,h4⟩:=zmM h hF hb
 refine⟨?_,?_,?_,?_⟩<;>rw[zeS Ya,zeS Ya,zeS Ya]<;>assumption
theorem zke{w:World}{v u:Value}{x y:zaf}(hv:RatV w v x)(hu:RatV w u y)(hx:zD x 524286)(hy:zD y 524286):
  Calls Tryz.prog 78 #[v,u] w (zcj w (zc (zT x+zT y))):=by
 obtain⟨an,ad,cn,cd,rfl,a2,a3,a4,a5⟩:=hv.ex;obtain⟨bn,bd,dn,dd,rfl,b2,b3,b4,b5⟩:=hu.ex;obtain⟨hx1,hx2⟩:=hx;obtain⟨hy1,hy2⟩:=hy;have hl1:=a4.len;have hl2:=a5.len;have hl3:=b4.len;have hl4:=b5.len;obtain⟨A4,A5,B4,B5,HNUMx,HDENx⟩:=hd6 a4 a5 b4 b5 a4.lim a5.lim;obtain⟨HNUMy,HDENy⟩:=hd2 b4.lim b5.lim;clear hv hu a4 a5 b4 b5
 go_enter Tryz.func78,Tryz.ntmps78
 go_upto_region 1 with fail
 have hF:=zkJ.mk' w (.bool x.neg) (.slice an x.num.length cn) (.slice ad x.den.length cd) (.bool y.neg) (.slice bn y.num.length dn) (.slice bd y.den.length dd) 51;generalize((w.alloc (zbb x an cn ad cd 51)).alloc (zbb y bn dn bd dd 51)).alloc (zc9 51)=W at *;obtain⟨HF,HA4,HA5,HB4,HB5⟩:=hd5 hF (A4.out.below hF.bl) (A5.out.below hF.bl) (B4.out.below hF.bl) (B5.out.below hF.bl);clear hF A4 A5 B4 B5
 refine zcR Yb Yb Yb Yb Yb (Fro W.heap.size W) (fun w w'=>Below w.heap.size w w') (prG (w.heap.size) (w.heap.size+1) x.neg (.slice an x.num.length cn) (.slice bd y.den.length dd) (zo x.num*zr y.den) (zr y.den) (y.den.length+1) W.heap.size) (fun i v w w' h hb=>zjo h hb) (Fro.start (Za _)) ?_ ?_
 ·intro ops;simp only[List.dropLast,zbR]
  refine⟨?v0,?v1,?v2,?v3,?v4,?v5,?_,?_,?_,?_,trivial⟩
  all_goals (intro g V hR hL;have hB:=hR.base;obtain⟨q0,q1,q2,q3,q4,q5⟩:=za8 HF.out.a HF.out.b HF.out.a.lt HF.out.b.lt hR.be;simp only[zdt,Region.binds,ZB,Zn,Zx,prG]at hL;simp[ze,Act.put])
  case v0|v1|v2|v3|v4|v5=>
   exact Ut
  ·try simp only[hL]
   clear hL;have HR:=hid hR;clear hR
   go_wp2_with fail
   refine(zie dd b3 (HB5.out.below HR.out.be) Ya).mono ?_
   exact TF
  ·generalize g 3=y3 at hL⊢;generalize g 6=y6 at hL⊢;obtain⟨rfl,⟨a1,c1,l1,rfl,p1,HP2,HP3,p4⟩,_,_⟩:=hL;have HR:=hid hR;clear hR
   go_wp2_with fail
   refine(zkG cn c1 (HA4.out.below HR.out.be) HP2.out rfl HP3.out Ya).mono ?_
   exact TN
  ·exact TZ
  ·exact TW
 intro ops g W1 hR hL;simp only[List.dropLast,List.getLastD_cons,List.getLastD_nil,ze,Act.put,ZH,Zax,Nat.reduceAdd,zcC]at hL⊢;have hB1:=hR.base;have HV:=hL.1.2;have HP:=hL.2;simp only[prG]at HV HP;clear hL;generalize g 8=yv at HV⊢;generalize g 9=yp at HP⊢;obtain⟨ak1,ck1,rfl,g11,HG21⟩:=HV;obtain⟨gp1,hgp1,rfl,hbx,hno⟩:=HP;obtain⟨HBX1,HNO1⟩:=hd2 hbx hno;obtain⟨e0,e1,ef,elt⟩:=hbx;have HR1:=hid hR;clear hR hno
 go_upto_region 2 with fail
 have hbw:=zav (p:=.bool x.neg) (q:=.slice ak1 (za (zo x.num*zr y.den)).length ck1) HR1.out.be hgp1;have HBX1':=HBX1.out.store (.bool x.neg) (.slice ak1 (za (zo x.num*zr y.den)).length ck1);have hu1:=HG21.out.store2 HNO1.out x.neg ak1 (za (zo x.num*zr y.den)).length ck1;generalize(W1.setCell ⟨gp1,0,none⟩ (.bool x.neg)).setCell ⟨gp1,1,none⟩ (.slice ak1 (za (zo x.num*zr y.den)).length ck1)=W2 at *;obtain⟨HX2,HU2,HF2,HA52,HB42,HB52⟩:=hd6 HBX1' hu1 (HF.out.below hbw) (HA5.out.below hbw) (HB4.out.below hbw) (HB5.out.below hbw);clear hbw HBX1' hu1 HBX1 HNO1 HR1 HG21 e0 e1 ef elt HA5 HB4 HB5 HA4 HF hgp1 hB1
 refine zcR Yb Yb Yb Yb Yb (Fro W2.heap.size W2) (fun w w'=>Below w.heap.size w w') (prG (w.heap.size+1) (w.heap.size) y.neg (.slice bn y.num.length dn) (.slice ad x.den.length cd) (zo y.num*zr x.den) (zr x.den) (x.den.length+1) W2.heap.size) (fun i v w w' h hb=>zjo h hb) (Fro.start (Za _)) ?_ ?_
 ·intro ops;simp only[List.dropLast,zbR]
  refine⟨?v0,?v1,?v2,?v3,?v4,?v5,?_,?_,?_,?_,trivial⟩
  all_goals (intro g V hR hL;have hB:=hR.base;obtain⟨q0,q1,q2,q3,q4,q5⟩:=za8 HF2.out.a HF2.out.b HF2.out.a.lt HF2.out.b.lt hR.be;simp only[zdt,Region.binds,ZB,Zn,Zx,prG]at hL;simp[ze,Act.put])
  case v0|v1|v2|v3|v4|v5=>
   exact Ut
  ·try simp only[hL]
   clear hL;have HR:=hid hR;clear hR
   go_wp2_with fail
   refine(zie cd a3 (HA52.out.below HR.out.be) Ya).mono ?_
   exact TF
  ·generalize g 3=y3 at hL⊢;generalize g 6=y6 at hL⊢;obtain⟨rfl,⟨a1,c1,l1,rfl,p1,HP2,HP3,p4⟩,_,_⟩:=hL;have HR:=hid hR;clear hR
   go_wp2_with fail
   refine(zkG dn c1 (HB42.out.below HR.out.be) HP2.out rfl HP3.out Ya).mono ?_
   exact TN
  ·exact TZ
  ·exact TW
 intro ops g W3 hR hL;simp only[List.dropLast,List.getLastD_cons,List.getLastD_nil,ze,Act.put,ZH,Zax,Nat.reduceAdd,zcC]at hL⊢;have hB2:=hR.base;have HV:=hL.1.2;have HP:=hL.2;simp only[prG]at HV HP;clear hL;generalize g 8=yv at HV⊢;generalize g 9=yp at HP⊢;obtain⟨ak2,ck2,rfl,g12,HG22⟩:=HV;obtain⟨gp2,hgp2,rfl,hbx,hno⟩:=HP;obtain⟨HBX2,HNO2⟩:=hd2 hbx hno;obtain⟨e0,e1,ef,elt⟩:=hbx;have HR2:=hid hR;clear hR hno
 go_upto_region 3 with fail
 have hbw:=zav (p:=.bool y.neg) (q:=.slice ak2 (za (zo y.num*zr x.den)).length ck2) HR2.out.be hgp2;have hb2:=HBX2.out.store (.bool y.neg) (.slice ak2 (za (zo y.num*zr x.den)).length ck2);have hu2:=HG22.out.store2 HNO2.out y.neg ak2 (za (zo y.num*zr x.den)).length ck2;generalize(W3.setCell ⟨gp2,0,none⟩ (.bool y.neg)).setCell ⟨gp2,1,none⟩ (.slice ak2 (za (zo y.num*zr x.den)).length ck2)=W4 at *;obtain⟨x0,x1,_,xlt⟩:=HX2.out.below hbw;obtain⟨y0,y1,_,ylt⟩:=hb2;obtain⟨HF4,HA54,HB54⟩:=hd3 (HF2.out.below hbw) (HA52.out.below hbw) (HB52.out.below hbw);have hi1:zc8 W4 (.agg #[.bool x.neg,.slice ak1 (za (zo x.num*zr y.den)).length ck1]) x.neg (zo x.num*zr y.den) (za (zo x.num*zr y.den)).length:=⟨ak1,ck1,_,rfl,g11,HU2.out.below hbw,zg _,Za _⟩
 have hi2:zc8 W4 (.agg #[.bool y.neg,.slice ak2 (za (zo y.num*zr x.den)).length ck2]) y.neg (zo y.num*zr x.den) (za (zo y.num*zr x.den)).length:=⟨ak2,ck2,_,rfl,g12,hu2,zg _,Za _⟩
 have hl1:(za (zo x.num*zr y.den)).length<=1048575:=Zi (zcO rfl (zg _) (Za _) (Za _) HNUMx.out (zv _)) (by have:=zlk y.den HDENy.out;omega);have hl2:(za (zo y.num*zr x.den)).length<=1048575:=Zi (zcO rfl (zg _) (Za _) (Za _) HNUMy.out (zv _)) (by have:=zlk x.den HDENx.out;omega);have hAd:=ztn hi1 hi2 Ya Ya;have HAd:=hid hAd;have HQ:Hid (zc (zT x+zT y)=zbw (decide (sgn x.neg (zo x.num*zr y.den)+sgn y.neg (zo y.num*zr x.den)<0)) (sgn x.neg (zo x.num*zr y.den)+sgn y.neg (zo y.num*zr x.den)).natAbs (zr x.den*zr y.den)):=by
  unfold Hid;rw[zb4 _ _ (Zak (zU _) (zU _)),zmp,zt0 _ _ _ _ (zU _) (zU _)];rfl
 have hlz:(za (sgn x.neg (zo x.num*zr y.den)+sgn y.neg (zo y.num*zr x.den)).natAbs).length<=1048576:=by
  refine Zi (zaC (b:=zo (za (zo x.num*zr y.den))+zo (za (zo y.num*zr x.den))) ?_) (zjV (zv _) (zv _) hl1 hl2)
  rw[zg,zg];generalize zo x.num*zr y.den=p;generalize zo y.num*zr x.den=q;cases x.neg<;>cases y.neg<;>simp[sgn]<;>omega
 generalize sgn x.neg (zo x.num*zr y.den)+sgn y.neg (zo y.num*zr x.den)=z at *;clear hbw hu2 HX2 HU2 HF2 HA52 HB42 HB52 HBX2 HNO2 HR2 HG22 e0 e1 ef elt hi1 hi2 hl1 hl2 hAd hgp2 hB2
 go_wp2_with fail
 refine HAd.out.mono ?_
 rintro e W5 ⟨v5,rfl,⟨a5',c5,rfl,f1,f2⟩,hb5⟩;obtain⟨F2,HF5,HA55,HB55⟩:=hd4 f2 (HF4.out.below hb5) (HA54.out.below hb5) (HB54.out.below hb5);clear f2 hb5 HAd HF4 HA54 HB54 x0 x1 xlt y0 y1 ylt;generalize hzb:decide (z<0)=zb at *;generalize hzn:z.natAbs=zn at *;clear hzb hzn
 go_upto_region 4 with fail
 have hal:=blA W5 (.cells #[.bool zb,.slice a5' (za zn).length c5] 89);have hbx:=za1.alloc W5 (.bool zb) (.slice a5' (za zn).length c5) 89;have HGS:=hid (HF5.out.c.lt);generalize hgs:W5.heap.size=gs at *;have hgs5:W5.heap.size<=gs:=Ya;generalize W5.alloc (.cells #[.bool zb,.slice a5' (za zn).length c5] 89)=W6 at *;rw[<- hgs]at hal;obtain⟨HF6,HA56,HB56,F26,HS6⟩:=hd5 (HF5.out.below hal) (HA55.out.below hal) (HB55.out.below hal) (F2.out.below hal) hbx;have xbl:Below W6.heap.size W6 W6.drew:=(Ze _ _).drew;have tok2:True:=trivial;have HDp:=hid (Zak (zU x.den) (zU y.den));clear hal hbx hgs hgs5 HF5 HA55 HB55 F2
 go_region_held3 (fun w'=>w'.cell? ⟨gs,0,none⟩=some (.bool zb)/\w'.cell? ⟨gs,1,none⟩=some (.slice a5' (za zn).length c5)/\w'.cell? ⟨w.heap.size,2,none⟩=some (.slice ad x.den.length cd)/\w'.cell? ⟨w.heap.size+1,2,none⟩=some (.slice bd y.den.length dd))
  (first|exact zmM HS6.out HF6.out ‹Below W6.heap.size W6 _› | exact zpI HS6.out HF6.out hS5 HGS.out _ _ _)
  (first
   | (go_at_call 75; have _t := tok2; clear tok2; have hS := ‹Below W6.heap.size W6 _›; refine (zie cd a3 (HA56.out.below hS) Ya).mono ?_; rintro e w2 ⟨a2', c2, l2, rfl, p1, p2, p3, p4, p5⟩
      have hS2:=hS.trans (p5.mono hS.size);have P2:=hid p2;have P3:=hid p3;clear p2 p3)
   | (go_at_call 75; have hS := ‹Below W6.heap.size W6 _›; refine (zie dd b3 (HB56.out.below hS) Ya).mono ?_; rintro e w3 ⟨a3', c3, l3, rfl, q1, q2, q3, q4, q5⟩
      have hS3:=hS.trans (q5.mono hS.size);have P2b:=hid (P2.out.below q5);have Q2:=hid q2;have Q3:=hid q3;clear q2 q3)
   | (go_at_call 108; have hS := ‹Below W6.heap.size W6 _›; refine (zkG c2 c3 P2b.out Q2.out P3.out Q3.out Ya).mono ?_; rintro e w4 ⟨a4, c4, rfl, t1, t2, t3, _⟩
      have hS4:=hS.trans (t3.mono hS.size);have T2:=hid t2;clear t2;have hdl:(za (zr x.den*zr y.den)).length<=2097152:=Zi (zcO P3.out Q3.out p4 q4 P2b.out.lim Q2.out.lim) Ya)
   | (go_at_call 74; have hS := ‹Below W6.heap.size W6 _›; refine (zkM zb c5 c4 f1 t1 (F26.out.below hS) T2.out (zg _) (zg _) Ya hdl HDp.out).mono ?_
      rintro e w5 ⟨v5,rfl,⟨bn',bd',m1,m2,rfl,k3,k4,k5,k6⟩,k2⟩;have hS5:=hS.trans (k2.mono hS.size);obtain⟨r0,r1,r2,rf,rlt⟩:=HF6.out.c.below hS5;obtain⟨hN5,K5,K6⟩:=hd3 (HF6.out.nc.below hS5 HF6.out.c.lt) k5 k6;have hB5:=hid (HF6.out.bl.trans (hS5.mono (by have:=HF6.out.a.lt;omega)))))
 generalize zbw zb zn (zr x.den*zr y.den)=R at *;go_wp2;exact Zp (v:=.agg #[.bool R.neg,.slice bn' R.num.length m1,.slice bd' R.den.length m2]) (by simp[results,Tryz.results78,go_sem,r0,r1,r2]) rfl ⟨_,rfl,YX,zu hB5.out Ya _ _ _⟩
structure zta (w W:World) (g:Nat) (p q r:Value):Prop where
 a:za4 W g p q r
 c:za4 W (g+1) (.bool false) (.slice none 0 0) (.slice none 0 0)
 nc:zX W (g+1)
 bl:Below g w W
theorem zta.mk'(w:World)(p q r:Value)(T:Nat):zta w ((w.alloc (.cells #[p,q,r] T)).alloc (.cells #[.bool false,.slice none 0 0,.slice none 0 0] T)) w.heap.size p q r:=by
 have step:∀(W:World) (o:Obj),Below W.heap.size W (W.alloc o):=fun W o=>(Ze _ _).alloc (Za _) _
 have s1:=step w (.cells #[p,q,r] T);have s3:=step (w.alloc (.cells #[p,q,r] T)) (.cells #[.bool false,.slice none 0 0,.slice none 0 0] T);have b1:=za4.alloc w p q r T;have b3:=za4.alloc (w.alloc (.cells #[p,q,r] T)) (.bool false) (.slice none 0 0) (.slice none 0 0) T;have n3:=zX.alloc (w.alloc (.cells #[p,q,r] T)) #[.bool false,.slice none 0 0,.slice none 0 0] T Yc;exact Id
theorem zto{w:World}{v:Value}{x:zaf}(hv:RatV w v x)(hx:zD x 1048576):
  Calls Tryz.prog 104 #[v] w (zcj w (zc (-zT x))):=by
 obtain⟨an,ad,cn,cd,rfl,a2,a3,a4,a5⟩:=hv.ex;have HQ:Hid (zc (-zT x)=zaF ⟨!x.neg,x.num,x.den⟩):=by
  unfold Hid;rw[za0]
  congr 1
  exact(zuu _ _ _).symm
 have hl1:=a4.len;have hl2:=a5.len;obtain⟨A4,A5⟩:=hd2 a4 a5;have HX:Hid (zD ⟨!x.neg,x.num,x.den⟩ 1048576):=⟨hx.num,hx.den⟩
 clear hv a4 a5 hx
 go_enter Tryz.func104,Tryz.ntmps104
 go_wp2_with fail
 have hF:=zta.mk' w (.bool (!x.neg)) (.slice an x.num.length cn) (.slice ad x.den.length cd) 51;generalize(w.alloc (.cells #[.bool (!x.neg),.slice an x.num.length cn,.slice ad x.den.length cd] 51)).alloc (zc9 51)=W at *;have HF:=hid hF;have hC:=zeJ (x:=⟨!x.neg,x.num,x.den⟩) ⟨an,ad,cn,cd,rfl,a2,a3,A4.out.below hF.bl,A5.out.below hF.bl⟩ HX.out;have HC:=hid hC;clear hF hC A4 A5
 refine HC.out.mono ?_
 rintro e w5 ⟨v5,rfl,⟨bn',bd',m1,m2,rfl,k3,k4,k5,k6⟩,k2⟩;obtain⟨r0,r1,r2,rf,rlt⟩:=HF.out.c.below k2;obtain⟨hN5,K5,K6,hB5⟩:=hd4 (HF.out.nc.below k2 HF.out.c.lt) k5 k6 (HF.out.bl.trans (k2.mono Yv));clear HC k5 k6 k2;generalize zaF ⟨!x.neg,x.num,x.den⟩=R at *;go_wp2;exact Zp (v:=.agg #[.bool R.neg,.slice bn' R.num.length m1,.slice bd' R.den.length m2]) (by simp[results,Tryz.results104,go_sem,r0,r1,r2]) rfl ⟨_,rfl,YX,zu hB5.out Ya _ _ _⟩
theorem zrR{x:zaf}{k:Nat}(hx:x.Lim)(h:zD x k):zD (zc (-zT x)) (k+1):=(QLe.ratOf hx h).neg.ratL
theorem zs9{w:World}{v u:Value}{x y:zaf}(hv:RatV w v x)(hu:RatV w u y)(hx:zD x 524286)(hy:zD y 524285):
  Calls Tryz.prog 73 #[v,u] w (zcj w (zc (zT x-zT y))):=by
 obtain⟨HVx,HVy⟩:=hd2 hv hu;have hny:=zrR hu.lim hy;obtain⟨an,ad,cn,cd,rfl,a2,a3,a4,a5⟩:=hv.ex;obtain⟨bn,bd,dn,dd,rfl,b2,b3,b4,b5⟩:=hu.ex;have HQ:Hid (zc (zT x-zT y)=zc (zT x+zT (zc (-zT y)))):=by
  unfold Hid;rw[zH,Rat.sub_eq_add_neg]
 have HNy:=hid hny;have hl1:=a4.len;have hl2:=a5.len;have hl3:=b4.len;have hl4:=b5.len;obtain⟨HX,HY⟩:=hd2 hx (hy.mono (show 524285<=1048576 from Ya));clear hv hu a4 a5 b4 b5 hx hy hny
 go_enter Tryz.func73,Tryz.ntmps73
 go_wp2_with fail
 have hF:=zkJ.mk' w (.bool x.neg) (.slice an x.num.length cn) (.slice ad x.den.length cd) (.bool y.neg) (.slice bn y.num.length dn) (.slice bd y.den.length dd) 51;generalize((w.alloc (zbb x an cn ad cd 51)).alloc (zbb y bn dn bd dd 51)).alloc (zc9 51)=W at *;obtain⟨HF,HVX,HVY⟩:=hd3 hF (HVx.out.below hF.bl) (HVy.out.below hF.bl);have xbl:Below W.heap.size W W.drew:=(Ze _ _).drew;clear hF HVx HVy
 go_region_held3 (fun w'=>w'.cell? ⟨w.heap.size,0,none⟩=some (.bool x.neg)/\w'.cell? ⟨w.heap.size,1,none⟩=some (.slice an x.num.length cn)/\w'.cell? ⟨w.heap.size,2,none⟩=some (.slice ad x.den.length cd)/\
   w'.cell? ⟨w.heap.size+1,0,none⟩=some (.bool y.neg)/\w'.cell? ⟨w.heap.size+1,1,none⟩=some (.slice bn y.num.length dn)/\w'.cell? ⟨w.heap.size+1,2,none⟩=some (.slice bd y.den.length dd))
  (first|exact za8 HF.out.a HF.out.b HF.out.a.lt HF.out.b.lt ‹Below W.heap.size W _› | exact za8 (B:=w.heap.size+1+1) HF.out.a HF.out.b (Nat.lt_succ_of_lt (Zaa _)) (Zaa _) (zu (hS5.mono (Zan HF.out.c.lt)) (Za _) _ _ _))
  (first
   | (go_at_call 104; have hS := ‹Below W.heap.size W _›; refine (zto (HVY.out.below hS) HY.out).mono ?_; rintro e w1 ⟨v1, rfl, g1, g2⟩
      have hS1:=hS.trans (g2.mono hS.size);have G1:=hid g1;clear g1)
   | (go_at_call 78; have hS := ‹Below W.heap.size W _›; refine (zke (HVX.out.below hS) G1.out HX.out HNy.out).mono ?_
      rintro e w5 ⟨v5,rfl,⟨bn',bd',m1,m2,rfl,k3,k4,k5,k6⟩,k2⟩;have hS5:=hS.trans (k2.mono hS.size);obtain⟨r0,r1,r2,rf,rlt⟩:=HF.out.c.below hS5;obtain⟨hN5,K5,K6⟩:=hd3 (HF.out.nc.below hS5 HF.out.c.lt) k5 k6;have hB5:=hid (HF.out.bl.trans (hS5.mono Yv))))
 generalize zc (zT x+zT (zc (-zT y)))=R at *;go_wp2;exact Zp (v:=.agg #[.bool R.neg,.slice bn' R.num.length m1,.slice bd' R.den.length m2]) (by simp[results,Tryz.results73,go_sem,r0,r1,r2]) rfl ⟨_,rfl,YX,zu hB5.out Ya _ _ _⟩
theorem zkX{w:World}{v:Value}{x:zaf}(hv:RatV w v x)(hx:x.num.length<=17592186044416):
  Calls Tryz.prog 71 #[v] w fun e w'=>e=.returned (.int .i64 (zdS (zT x)))/\Below w.heap.size w w':=by
 obtain⟨an,ad,cn,cd,rfl,a2,a3,a4,a5⟩:=hv.ex;have hl1:=a4.len;have hb:=blA w (zbb x an cn ad cd 51);have hI:zc8 (w.alloc (zbb x an cn ad cd 51)) (.agg #[.bool x.neg,.slice an x.num.length cn]) x.neg (zo x.num) x.num.length:=⟨an,cn,_,rfl,a2,a4.below hb,rfl,Za _⟩
 obtain⟨HS,HZ,HB⟩:=hd3 (zsX hI hx) (zks x) hb;clear hv a4 a5 hI hb
 go_enter Tryz.func71,Tryz.ntmps71
 go_wp2_with fail
 refine HS.out.mono ?_
 rintro e w1 ⟨rfl,hb1⟩;have HB1:=htr HB hb1;clear HS hb1;go_wp2;go_ret;exact⟨zaD HZ.out,HB1.out⟩
theorem ztf{w:World}{v u:Value}{x y:zaf}(hv:RatV w v x)(hu:RatV w u y)(hx:zD x 524286)(hy:zD y 524285):
  Calls Tryz.prog 44 #[v,u] w fun e w'=>e=.returned (.int .i64 (zqd (zT x) (zT y)))/\Below w.heap.size w w':=by
 have hlen:zD (zc (zT x-zT y)) 17592186044416:=(((QLe.ratOf hv.lim hx).sub (QLe.ratOf hu.lim hy)).mono Ya).ratL;obtain⟨HL,HVx,HVy⟩:=hd3 hlen.num hv hu;obtain⟨an,ad,cn,cd,rfl,a2,a3,a4,a5⟩:=hv.ex;obtain⟨bn,bd,dn,dd,rfl,b2,b3,b4,b5⟩:=hu.ex;have hl1:=a4.len;have hl2:=a5.len;have hl3:=b4.len;have hl4:=b5.len;have hb:Below w.heap.size w ((w.alloc (zbb x an cn ad cd 51)).alloc (zbb y bn dn bd dd 51)):=((Ze _ _).alloc (Za _) _).alloc Yc _;obtain⟨HS,HB⟩:=hd2 (zs9 (HVx.out.below hb) (HVy.out.below hb) hx hy) hb;have HZ:Hid (zdS (zT (zc (zT x-zT y)))=zqd (zT x) (zT y)):=by unfold Hid;rw[zH,zmS]
 clear hv hu a4 a5 b4 b5 hx hy hb hlen HVx HVy
 go_enter Tryz.func44,Tryz.ntmps44
 go_wp2_with fail
 refine HS.out.mono ?_
 rintro e w1 ⟨v1,rfl,g1,hb1⟩;have HSg:=hid (zkX g1 HL.out);have HB1:=htr HB hb1;clear HS hb1 g1
 go_wp2_with fail
 refine HSg.out.mono ?_
 rintro e w2 ⟨rfl,hb2⟩;have HB2:=htr HB1 hb2;clear HSg hb2;go_wp2;go_ret;exact⟨zaD HZ.out,HB2.out⟩
theorem zeo{q:Rat}:(zdS q=0) ↔ q=0:=by
 unfold zdS
 by_cases h1:q<0
 ·rw[Zm h1];constructor
  ·intro h;omega
  ·intro h;subst h;exact absurd h1 Yd
 ·rw[Zg h1]
  by_cases h2:0<q
  ·rw[Zm h2];constructor
   ·intro h;omega
   ·intro h;subst h;exact absurd h2 Yd
  ·rw[Zg h2];exact⟨fun _=>Rat.le_antisymm (Rat.not_lt.1 h2) (Rat.not_lt.1 h1),fun _=>rfl⟩
theorem zlQ{x:zaf}(h:zT x≠0):0<zo x.num:=by
 rcases ZaI (zo x.num)with h0|h0
 ·exfalso
  apply h
  unfold zT;rw[h0];have:sgn x.neg 0=0:=by cases x.neg<;>rfl
  rw[this,Rat.zero_mkRat]
 ·exact h0
def zmV(w:World)(x:zaf)(c:Int)(e:Ending)(w':World):Prop:=∃v,e=.returned (.tuple #[v,.int .i64 c])/\RatV w' v x/\Below w.heap.size w w'
theorem zte{w:World}{v u:Value}{x y:zaf}(hv:RatV w v x)(hu:RatV w u y)(hx:zD x 1048575)(hy:zD y 1048575)(h0:zT y≠0):
  Calls Tryz.prog 140 #[v,u] w (zmV w (zc (zT x/zT y)) 0):=by
 have HVy:=hid hu;obtain⟨an,ad,cn,cd,rfl,a2,a3,a4,a5⟩:=hv.ex;obtain⟨bn,bd,dn,dd,rfl,b2,b3,b4,b5⟩:=hu.ex;have hyp:=zlQ h0;have hQ:Hid (zc (zT x/zT y)=zbw (x.neg != y.neg) (zo x.num*zr y.den) (zr x.den*zo y.num)):=by
  unfold Hid;rw[zb4 _ _ (Zak (zU _) hyp),zt3];rfl
 obtain⟨hx1,hx2⟩:=hx;obtain⟨hy1,hy2⟩:=hy;have hl1:=a4.len;have hl2:=a5.len;have hl3:=b4.len;have hl4:=b5.len;obtain⟨A4,A5,B4,B5⟩:=hd4 a4 a5 b4 b5;have hs0:(zdS (zT y)==0)=false:=by rw[Zaf];intro e;exact h0 (zeo.1 e)
 have HDp:=hid (Zak (zU x.den) hyp);clear hv hu a4 a5 b4 b5 hyp h0
 go_enter Tryz.func140,Tryz.ntmps140
 go_wp2_with fail
 have hF:=zkJ.mk' w (.bool x.neg) (.slice an x.num.length cn) (.slice ad x.den.length cd) (.bool y.neg) (.slice bn y.num.length dn) (.slice bd y.den.length dd) 51;generalize((w.alloc (zbb x an cn ad cd 51)).alloc (zbb y bn dn bd dd 51)).alloc (zc9 51)=W0 at *;obtain⟨HS0,HF0⟩:=hd2 (zkX (HVy.out.below hF.bl) (by show y.num.length<=_;omega)) hF;clear hF
 refine HS0.out.mono ?_
 rintro e W ⟨rfl,hbW⟩;have HF:=hid (HF0.out.below hbW);obtain⟨HA4,HA5,HB4,HB5⟩:=hd4 (A4.out.below HF.out.bl) (A5.out.below HF.out.bl) (B4.out.below HF.out.bl) (B5.out.below HF.out.bl);generalize zdS (zT y)=sq at *;clear A4 A5 B4 B5 HS0 HF0 hbW HVy
 go_upto_region 3 with fail
 have xbl:Below W.heap.size W W.drew:=(Ze _ _).drew;have tok1:True:=trivial;have tok2:True:=trivial;clear hs0
 go_region_held3 (fun w'=>w'.cell? ⟨w.heap.size,0,none⟩=some (.bool x.neg)/\w'.cell? ⟨w.heap.size,1,none⟩=some (.slice an x.num.length cn)/\w'.cell? ⟨w.heap.size,2,none⟩=some (.slice ad x.den.length cd)/\
   w'.cell? ⟨w.heap.size+1,0,none⟩=some (.bool y.neg)/\w'.cell? ⟨w.heap.size+1,1,none⟩=some (.slice bn y.num.length dn)/\w'.cell? ⟨w.heap.size+1,2,none⟩=some (.slice bd y.den.length dd))
  (first|exact za8 HF.out.a HF.out.b HF.out.a.lt HF.out.b.lt ‹Below W.heap.size W _› | exact za8 (B:=w.heap.size+1+1) HF.out.a HF.out.b (Nat.lt_succ_of_lt (Zaa _)) (Zaa _) (zu (hS5.mono (Zan HF.out.c.lt)) (Za _) _ _ _))
  (first
   | (go_at_call 75; have _t := tok1; clear tok1; have hS := ‹Below W.heap.size W _›; refine (zie dd b3 (HB5.out.below hS) Ya).mono ?_; rintro e w1 ⟨a1, c1, l1, rfl, p1, p2, p3, p4, p5⟩
      have hS1:=hS.trans (p5.mono hS.size);have P2:=hid p2;have P3:=hid p3;clear p2 p3)
   | (go_at_call 108; have _t := tok2; clear tok2; have hS := ‹Below W.heap.size W _›; refine (zkG cn c1 (HA4.out.below hS) P2.out rfl P3.out Ya).mono ?_; rintro e w2 ⟨a2', c2, rfl, g1, g2, g3, _⟩
      have hS2:=hS.trans (g3.mono hS.size);have G2:=hid g2;clear g2;have hml:(za (zo x.num*zr y.den)).length<=2097152:=Zi (zcO rfl P3.out hx1 p4 HA4.out.lim P2.out.lim) Ya)
   | (go_at_call 75; have hS := ‹Below W.heap.size W _›; refine (zie cd a3 (HA5.out.below hS) Ya).mono ?_; rintro e w3 ⟨a3', c3, l3, rfl, q1, q2, q3, q4, q5⟩
      have hS3:=hS.trans (q5.mono hS.size);have G2b:=hid (G2.out.below q5);have Q2:=hid q2;have Q3:=hid q3;clear q2 q3)
   | (go_at_call 108; have hS := ‹Below W.heap.size W _›; refine (zkG c3 dn Q2.out (HB4.out.below hS) Q3.out rfl Ya).mono ?_; rintro e w4 ⟨a4, c4, rfl, t1, t2, t3, _⟩
      have hS4:=hS.trans (t3.mono hS.size);have G2d:=hid (G2b.out.below t3);have T2:=hid t2;clear t2;have hdl:(za (zr x.den*zo y.num)).length<=2097152:=Zi (zcO Q3.out rfl q4 hy1 Q2.out.lim HB4.out.lim) Ya)
   | (go_at_call 74; have hS := ‹Below W.heap.size W _›; refine (zkM (x.neg != y.neg) c2 c4 g1 t1 G2d.out T2.out (zg _) (zg _) hml hdl HDp.out).mono ?_
      rintro e w5 ⟨v5,rfl,⟨bn',bd',m1,m2,rfl,k3,k4,k5,k6⟩,k2⟩;have hS5:=hS.trans (k2.mono hS.size);obtain⟨r0,r1,r2,rf,rlt⟩:=HF.out.c.below hS5;obtain⟨hN5,K5,K6⟩:=hd3 (HF.out.nc.below hS5 HF.out.c.lt) k5 k6;have hB5:=hid (HF.out.bl.trans (hS5.mono Yv))))
 generalize zbw (x.neg != y.neg) (zo x.num*zr y.den) (zr x.den*zo y.num)=R at *;go_wp2;exact Zp (v:=.tuple #[.agg #[.bool R.neg,.slice bn' R.num.length m1,.slice bd' R.den.length m2],.int .i64 0]) (by simp[results,Tryz.results140,go_sem,r0,r1,r2]) rfl ⟨_,rfl,YW,zu hB5.out Ya _ _ _⟩
theorem zgh(z:Int):zc (z:Rat)=⟨decide (z<0),za z.natAbs,[]⟩:=by
 unfold zc;rw[Rat.num_intCast,Rat.den_intCast];rfl
theorem zsV(w:World)(x:Int)(h1: -9223372036854775808<=x)(h2:x<=9223372036854775807):
  Calls Tryz.prog 27 #[.int .i64 x] w (zcj w (zc (x:Rat))):=by
 have hR:=za4.alloc w (.bool false) (.slice none 0 0) (.slice none 0 0) 51;have hN:=zX.alloc w #[.bool false,.slice none 0 0,.slice none 0 0] 51 Yc;have hB0:=blA w (zc9 51);obtain⟨HO,HR,HN,HB,HQ⟩:=hd5 (fun wv=>zur wv x h1 h2) hR hN hB0 (zgh x);clear hR hN hB0
 go_enter Tryz.func27,Tryz.ntmps27
 go_wp2_with fail
 refine(HO.out _).mono ?_
 rintro e w1 ⟨v1,rfl,⟨a1,c1,rfl,g1,g2⟩,hb⟩;generalize hzb:decide (x<0)=zb at *;generalize hzn:za x.natAbs=zn at *;have hal:=blA w1 (.cells #[.bool zb,.slice a1 zn.length c1] 89);obtain⟨r0,r1,r2,rf,rlt⟩:=(HR.out.below hb).below hal;obtain⟨hN2,HB2,G2⟩:=hd3 ((HN.out.below hb HR.out.lt).below hal (HR.out.below hb).lt) (HB.out.trans ((hb.trans (hal.mono hb.size)).mono HB.out.size)) (g2.below hal);clear HO hb hal g2 HR HN HB hzb hzn;go_wp2;exact Zp (v:=.agg #[.bool zb,.slice a1 zn.length c1,.slice none 0 0]) (by simp[results,Tryz.results27,go_sem,r0,r1,r2]) rfl ⟨_,rfl,by rw[HQ.out];exact RatV.store (x:=⟨zb,zn,[]⟩) (bd:=none) (m2:=0) hN2.out g1 (Za _) G2.out (zw.nil _ _),zu HB2.out (Za _) _ _ _⟩
structure zmb (w W:World) (g:Nat) (p q r s:Value):Prop where
 a:za1 W g p q
 b:za1 W (g+1) r s
 c:za4 W (g+1+1) (.bool false) (.slice none 0 0) (.slice none 0 0)
 nc:zX W (g+1+1)
 bl:Below g w W
theorem zmb.mk'(w:World)(p q r s:Value)(T T':Nat):zmb w (((w.alloc (.cells #[p,q] T)).alloc (.cells #[r,s] T)).alloc (.cells #[.bool false,.slice none 0 0,.slice none 0 0] T')) w.heap.size p q r s:=by
 have step:∀(W:World) (o:Obj),Below W.heap.size W (W.alloc o):=fun W o=>(Ze _ _).alloc (Za _) _
 have s1:=step w (.cells #[p,q] T);have s2:=step (w.alloc (.cells #[p,q] T)) (.cells #[r,s] T);have s3:=step ((w.alloc (.cells #[p,q] T)).alloc (.cells #[r,s] T)) (.cells #[.bool false,.slice none 0 0,.slice none 0 0] T');have b1:=za1.alloc w p q T;have b2:=za1.alloc (w.alloc (.cells #[p,q] T)) r s T;have b3:=za4.alloc ((w.alloc (.cells #[p,q] T)).alloc (.cells #[r,s] T)) (.bool false) (.slice none 0 0) (.slice none 0 0) T';have n3:=zX.alloc ((w.alloc (.cells #[p,q] T)).alloc (.cells #[r,s] T)) #[.bool false,.slice none 0 0,.slice none 0 0] T' Yc;exact Tq
theorem zmb.below'{w W W':World}{g:Nat}{p q r s:Value}(h:zmb w W g p q r s)(hb:Below W.heap.size W W'):zmb w W' g p q r s:=
 ⟨h.a.below hb,h.b.below hb,h.c.below hb,h.nc.below hb h.c.lt,h.bl.trans (hb.mono (by have:=h.a.lt;omega))⟩
structure zsY (w W:World) (g:Nat) (p q r s t u:Value):Prop where
 a:za4 W g p q r
 b:za4 W (g+1) s t u
 bl:Below g w W
theorem zsY.mk'(w:World)(p q r s t u:Value)(T:Nat):zsY w ((w.alloc (.cells #[p,q,r] T)).alloc (.cells #[s,t,u] T)) w.heap.size p q r s t u:=by
 have step:∀(W:World) (o:Obj),Below W.heap.size W (W.alloc o):=fun W o=>(Ze _ _).alloc (Za _) _
 have s1:=step w (.cells #[p,q,r] T);have s3:=step (w.alloc (.cells #[p,q,r] T)) (.cells #[s,t,u] T);have b1:=za4.alloc w p q r T;have b3:=za4.alloc (w.alloc (.cells #[p,q,r] T)) s t u T;have b1':=b1.below s3;have bl:=s1.trans (s3.mono Yc);simp only[Zbg]at b3;exact⟨b1',b3,bl⟩
theorem zkV(x y:zaf):decide (x=y)=(decide (x.neg=y.neg) && (decide (x.num=y.num) && decide (x.den=y.den))):=by
 rw[ZZ];simp only[ZC,Zu];obtain⟨a,b,c⟩:=x;obtain⟨d,e,f⟩:=y;simp
theorem znL{w:World}{v u:Value}{x y:zaf}(hv:RatV w v x)(hu:RatV w u y):
  Calls Tryz.prog 24 #[v,u] w fun e w'=>e=.returned (.bool (decide (x=y)))/\Below w.heap.size w w':=by
 obtain⟨an,ad,cn,cd,rfl,a2,a3,a4,a5⟩:=hv.ex;obtain⟨bn,bd,dn,dd,rfl,b2,b3,b4,b5⟩:=hu.ex;have HR:=hid (zkV x y);generalize decide (x=y)=R at *;have hl1:=a4.len;have hl2:=a5.len;have hl3:=b4.len;have hl4:=b5.len;obtain⟨A4,A5,B4,B5⟩:=hd4 a4 a5 b4 b5;clear hv hu a4 a5 b4 b5
 go_enter Tryz.func24,Tryz.ntmps24
 go_upto_region 1 with fail
 have hF:=zsY.mk' w (.bool x.neg) (.slice an x.num.length cn) (.slice ad x.den.length cd) (.bool y.neg) (.slice bn y.num.length dn) (.slice bd y.den.length dd) 51;generalize(w.alloc (zbb x an cn ad cd 51)).alloc (zbb y bn dn bd dd 51)=W at *;obtain⟨HBl,HM1,HM2,HBn⟩:=hd4 hF.bl (zqt cn dn (A4.out.below hF.bl) (B4.out.below hF.bl)) (fun n=>zqt cd dd ((A5.out.below hF.bl).drewN n) ((B5.out.below hF.bl).drewN n)) (fun(wv:World) n=>Below.drewN_refl wv n);exact U8
theorem zkq{w:World}{v:Value}{x:zaf}(hv:RatV w v x)(hx:zD x 1048576):
  Calls Tryz.prog 67 #[v] w fun e w'=>e=.returned (.bool (zP x))/\Below w.heap.size w w':=by
 obtain⟨HV,HX⟩:=hd2 hv hx;obtain⟨an,ad,cn,cd,rfl,a2,a3,a4,a5⟩:=hv.ex;have HR:Hid (zP x=decide (x=zaF x)):=rfl;generalize zP x=R at *;have hl1:=a4.len;have hl2:=a5.len;clear hv hx a4 a5
 go_enter Tryz.func67,Tryz.ntmps67
 go_upto_region 1 with fail
 have hX:=za4.alloc w (.bool x.neg) (.slice an x.num.length cn) (.slice ad x.den.length cd) 51;have hb:=blA w (zbb x an cn ad cd 51);generalize w.alloc (zbb x an cn ad cd 51)=W at *;obtain⟨HB,HV2,HX3⟩:=hd3 hb (HV.out.below hb) hX;obtain⟨x0,x1,x2,xf,xlt⟩:=hX;have xbl:Below W.heap.size W W.drew:=(Ze _ _).drew;clear hb xf HV
 go_region_held3 (fun w'=>w'.cell? ⟨w.heap.size,0,none⟩=some (.bool x.neg)/\w'.cell? ⟨w.heap.size,1,none⟩=some (.slice an x.num.length cn)/\w'.cell? ⟨w.heap.size,2,none⟩=some (.slice ad x.den.length cd))
  (first|exact zky x0 x1 x2 xlt ‹Below W.heap.size W _› | go_keep)
  (first
   | (go_at_call 45; have hS := ‹Below W.heap.size W _›; refine (zeJ (HV2.out.below hS) HX.out).mono ?_; rintro e w1 ⟨v1, rfl, g1, g2⟩
      have hS1:=hS.trans (g2.mono hS.size);have G1:=hid g1;clear g1)
   | (go_at_call 24; have hS := ‹Below W.heap.size W _›; refine (znL (HV2.out.below hS) G1.out).mono ?_
      rintro e w2 ⟨rfl,g3⟩;have hS2:=hS.trans (g3.mono hS.size);have hB2:=htr HB hS2))
 go_wp2;go_ret;exact⟨zi HR.out.symm,hB2.out⟩
theorem zjf{L:List zaf}{j:Nat}{x:zaf}(hx:L[j]? =some x):(L.take (j+1)).all zP=((L.take j).all zP && zP x):=by
 rw[zar hx,Zbx];simp
theorem zfv{L:List zaf}{x:zaf}(hx:x∈L)(h:zP x=false):L.all zP=false:=by
 rw[List.all_eq_false];exact⟨x,hx,by simp[h]⟩
theorem zl5{w:World}{a:Option Addr}{L:List zaf}(c:Nat)(h:zm w a L)(hL:∀x∈L,zD x 1048576):
  Calls Tryz.prog 38 #[.slice a L.length c] w fun e w'=>e=.returned (.bool (L.all zP))/\Below w.heap.size w w':=by
 have hl:=h.len;obtain⟨H,HL⟩:=hd2 h hL;have HR:Hid (L.all zP=L.all zP):=rfl;have HF:Hid (∀x∈L,zP x=false->L.all zP=false):=fun x hx hf=>zfv hx hf
 clear h hL
 go_enter Tryz.func38,Tryz.ntmps38
 go_wp2
 go_loopw [3] (fun i wr=>∃j:Nat,j<=L.length/\i=.int .i64 (j:Int)/\Hid ((L.take j).all zP=true)/\Hid (Below w.heap.size w wr)) (fun i _=>L.length-(intOf i).toNat)
 case atStart=>exact⟨0,Zs _,rfl,rfl,Ze _ _⟩
 case round=>
  exact UF
def zoU(w:World)(z:Int)(k:Nat)(e:Ending)(w':World):Prop:=∃v s m,e=.returned v/\zc8 w' v s m k/\sgn s m=z/\Below w.heap.size w w'
theorem zlr(neg:Bool)(n:Nat):sgn (neg && decide (n≠0)) n=sgn neg n:=by
 cases neg
 ·rfl
 ·by_cases h:n=0
  ·subst h;simp[sgn]
  ·simp[sgn,h]
theorem zc8.store2{w:World}{g:Nat}{b:Bool}{n k:Nat}{a:Option Addr}{c:Nat}{l:List Nat}(hN:zX w g)(h1:l.length<=c)(h2:zw w a l)(h3:zo l=n)(h4:l.length<=k):
  zc8 ((w.setCell ⟨g,0,none⟩ (.bool b)).setCell ⟨g,1,none⟩ (.slice a l.length c)) (.agg #[.bool b,.slice a l.length c]) b n k:=
 ⟨a,c,l,rfl,h1,(h2.setCell hN _ _).setCell (hN.setCell _ _ Yc) _ _,h3,h4⟩
theorem zqb{x y k1 k2:Nat}(h1:(za x).length<=k1)(h2:(za y).length<=k2):(za (x+y)).length<=k1+k2+1:=by
 have h:=zjV (zv x) (zv y) (N:=k1+k2) Ya Ya
 rwa [zg,zg]at h
theorem znp{w:World}{v u:Value}{n1:Bool}{x y k1 k2:Nat}(hv:zc8 w v n1 x k1)(hu:zc8 w u n1 y k2)(hr:k1+k2<=1759218604441):
  Calls Tryz.prog 160 #[v,u] w (zoU w (sgn n1 x+sgn n1 y) (k1+k2+1)):=by
 obtain⟨a,c,l,rfl,h1,h2,h3,h4⟩:=hv.ex;obtain⟨b,d,m,rfl,g1,g2,g3,g4⟩:=hu.ex;have hl1:=h2.len;have hl2:=g2.len;have hsl:(za (x+y)).length<=k1+k2+1:=zqb (Zi Jt h4) (Zi Ju g4);obtain⟨HSl,H2,G2,H3,G3⟩:=hd5 hsl h2 g2 h3 g3;have HZ:Hid (sgn (n1 && decide (x+y≠0)) (x+y)=sgn n1 x+sgn n1 y):=by unfold Hid;rw[zlr,zf1]
 have hlr:l.length+m.length<=17592186044416:=Ya;have hkr:k1+k2+1<=17592186044416:=Ya;have HAd:Hid (∀wv,zw wv a l->zw wv b m->Calls Tryz.prog 178 #[.slice a l.length c,.slice b m.length d] wv (zoN wv (x+y))):=fun wv q1 q2=>zus c d h1 g1 q1 q2 H3.out G3.out hlr
 have HMk:Hid (∀wv a1 c1,(za (x+y)).length<=c1->zw wv a1 (za (x+y))->Calls Tryz.prog 177 #[.bool n1,.slice a1 (za (x+y)).length c1] wv (fun e w'=>∃v,e=.returned v/\zc8 w' v (n1 && decide (x+y≠0)) (x+y) (k1+k2+1)/\Below wv.heap.size wv w')):=fun wv a1 c1 q1 q2=>zpZ n1 c1 (k1+k2+1) q1 q2 (zg _) HSl.out hkr
 generalize sgn n1 x+sgn n1 y=Z at *;generalize(n1 && decide (x+y≠0))=B at *;generalize x+y=S at *;clear hv hu h2 g2 h3 g3 hsl
 go_enter Tryz.func160,Tryz.ntmps160
 have hF:=zrc.mk' w (.bool n1) (.slice a l.length c) (.bool n1) (.slice b m.length d) 89;go_wp2;generalize((w.alloc (.cells #[.bool n1,.slice a l.length c] 89)).alloc (.cells #[.bool n1,.slice b m.length d] 89)).alloc (.cells #[.bool false,.slice none 0 0] 89)=W at *;obtain⟨HF,HH2,HG2⟩:=hd3 hF (H2.out.below hF.bl) (G2.out.below hF.bl);have xbl:Below W.heap.size W W.drew:=(Ze _ _).drew;clear hF H2 G2
 go_region_held3 (fun w'=>w'.cell? ⟨w.heap.size,0,none⟩=some (.bool n1)/\w'.cell? ⟨w.heap.size,1,none⟩=some (.slice a l.length c)/\w'.cell? ⟨w.heap.size+1,0,none⟩=some (.bool n1)/\w'.cell? ⟨w.heap.size+1,1,none⟩=some (.slice b m.length d))
  (first|exact zgp HF.out.a HF.out.b ‹Below W.heap.size W _› | exact zgN HF.out.a HF.out.b ‹Below W.heap.size W _› _ _)
  (first
   | (go_at_call 178; have hS := ‹Below W.heap.size W _›; refine (HAd.out _ (HH2.out.below hS) (HG2.out.below hS)).mono ?_; rintro e w1 ⟨a1, c1, rfl, p1, p2, p3⟩
      have hS1:=hS.trans (p3.mono hS.size))
   | (go_at_call 177; have hS := ‹Below W.heap.size W _›; refine (HMk.out _ _ _ p1 p2).mono ?_
      rintro e w2 ⟨v2,rfl,⟨a3,c3,l3,rfl,q1,q2,q3,q4⟩,q5⟩;have hS2:=hS.trans (q5.mono hS.size);obtain⟨r0,r1,rf,rlt⟩:=HF.out.c.below hS2;obtain⟨hN2,Q2⟩:=hd2 (HF.out.nc.below hS2 HF.out.c.lt) q2;have hB2:=hid (HF.out.bl.trans (hS2.mono Yv))))
 obtain⟨HI,HBf⟩:=hd2 (zc8.store2 (b:=B) hN2.out q1 Q2.out q3 q4) (zav (p:=.bool B) (q:=.slice a3 l3.length c3) hB2.out (show w.heap.size<=w.heap.size+1+1 from Ya));clear q3;go_wp2;exact Zp (v:=.agg #[.bool B,.slice a3 l3.length c3]) (by simp[results,Tryz.results160,go_sem,r0,r1]) rfl ⟨_,B,S,rfl,HI.out,HZ.out,HBf.out⟩
structure zrq (w W:World) (g:Nat) (p q r s:Value):Prop where
 f:zrc w W g p q r s
 na:zX W g
 nb:zX W (g+1)
theorem zrq.mk'(w:World)(n1 n2:Bool)(a b:Option Addr)(l m c d:Nat)(T:Nat):
  zrq w (((w.alloc (.cells #[.bool n1,.slice a l c] T)).alloc (.cells #[.bool n2,.slice b m d] T)).alloc (.cells #[.bool false,.slice none 0 0] T)) w.heap.size (.bool n1) (.slice a l c) (.bool n2) (.slice b m d):=by
 have step:∀(W:World) (o:Obj),Below W.heap.size W (W.alloc o):=fun W o=>(Ze _ _).alloc (Za _) _
 have b1:=za1.alloc w (.bool n1) (.slice a l c) T;have b2:=za1.alloc (w.alloc (.cells #[.bool n1,.slice a l c] T)) (.bool n2) (.slice b m d) T;have m1:=zX.alloc w #[.bool n1,.slice a l c] T Yc;have m2:=zX.alloc (w.alloc (.cells #[.bool n1,.slice a l c] T)) #[.bool n2,.slice b m d] T Yc
 refine⟨zrc.mk' w _ _ _ _ T,(m1.below (step _ _) b1.lt).below (step _ _) (b1.below (step _ (.cells #[.bool n2,.slice b m d] T))).lt,?_⟩
 have:=m2.below (step (((w.alloc (.cells #[.bool n1,.slice a l c] T)).alloc (.cells #[.bool n2,.slice b m d] T))) (.cells #[.bool false,.slice none 0 0] T)) b2.lt
 simpa using this
theorem za1.farI{w:World}{p q:Nat}{b s:Value}(hb:za1 w p b s)(hne:q≠p)(o:Nat)(v:Value):za1 (w.setCell ⟨q,o,none⟩ v) p b s:=
 ⟨(zeS hne).trans hb.c0,(zeS hne).trans hb.c1,fun i=>by simp[Zai,hb.free],Ub⟩
theorem za1.storeI{w:World}{g:Nat}{p q:Value}(h:za1 w g p q)(p' q':Value):za1 ((w.setCell ⟨g,0,none⟩ p').setCell ⟨g,1,none⟩ q') g p' q':=by
 refine⟨?_,?_,fun i=>by simp[Zai,h.free],Kw⟩
 ·rw[ZA _ _ _ _ Yo];exact I2
 ·exact E4
structure zun (w1 W5:World) (g:Nat) (p q r s:Value):Prop where
 a:za1 W5 g r s
 b:za1 W5 (g+1) p q
 c:za1 W5 (g+1+1) (.bool false) (.slice none 0 0)
 nc:zX W5 (g+1+1)
 sz:W5.heap.size=w1.heap.size
theorem zrq.swap{w W w1:World}{g:Nat}{p q r s:Value}(h:zrq w W g p q r s)(hb:Below W.heap.size W w1):zun w1 ((((w1.setCell ⟨g,0,none⟩ r).setCell ⟨g,1,none⟩ s).setCell ⟨g+1,0,none⟩ p).setCell ⟨g+1,1,none⟩ q) g p q r s:=by
 have A:=h.f.a.below hb;have B:=h.f.b.below hb;have C:=h.f.c.below hb;have N:=h.f.nc.below hb h.f.c.lt
 refine⟨?_,?_,?_,?_,Yc⟩
 ·exact((A.storeI r s).farI Ya _ _).farI Ya _ _
 ·exact((B.farI Ya _ _).farI Ya _ _).storeI p q
 ·exact(((C.farI Ya _ _).farI Ya _ _).farI Ya _ _).farI Ya _ _
 ·exact(((N.far Ya _ _).far Ya _ _).far Ya _ _).far Ya _ _
theorem zrq.swapU{w W w1:World}{g:Nat}{p q r s:Value}(h:zrq w W g p q r s)(hb:Below W.heap.size W w1)(hr:∀x,r≠.int .u32 x)(hs:∀x,s≠.int .u32 x)(hp:∀x,p≠.int .u32 x){a:Option Addr}{l:List Nat}(hu:zw w1 a l):
  zw ((((w1.setCell ⟨g,0,none⟩ r).setCell ⟨g,1,none⟩ s).setCell ⟨g+1,0,none⟩ p).setCell ⟨g+1,1,none⟩ q) a l:=by
 have NA:=h.na.below hb h.f.a.lt;have NB:=h.nb.below hb h.f.b.lt
 refine(((hu.setCell NA _ _).setCell (NA.setCell _ _ hr) _ _).setCell ?_ _ _).setCell ?_ _ _
 ·exact(NB.far Ya _ _).far Ya _ _
 ·exact((NB.far Ya _ _).far Ya _ _).setCell _ _ hp
theorem zni{w:World}{v u:Value}{n1 n2:Bool}{x y k1 k2:Nat}(hv:zc8 w v n1 x k1)(hu:zc8 w u n2 y k2)(hn:n1≠n2)(hr:k1+k2<=1759218604441):
  Calls Tryz.prog 160 #[v,u] w (zoU w (sgn n1 x+sgn n2 y) (k1+k2+1)):=by
 obtain⟨a,c,l,rfl,h1,h2,h3,h4⟩:=hv.ex;obtain⟨b,d,m,rfl,g1,g2,g3,g4⟩:=hu.ex;have hl1:=h2.len;have hl2:=g2.len;obtain⟨H2,G2,H3,G3⟩:=hd4 h2 g2 h3 g3;have hne:(n1==n2)=false:=by simpa using hn
 have HN:=hid hn;have hlx:(za x).length<=k1:=Zi Jt h4;have hly:(za y).length<=k2:=Zi Ju g4;have hlr:l.length+m.length<=17592186044416:=Ya;have hlr2:m.length+l.length<=17592186044416:=Ya;have hkr:k1+k2+1<=17592186044416:=Ya;have HMk:Hid (∀(nb:Bool) (V:Nat) wv a1 c1,(za V).length<=k1+k2+1->(za V).length<=c1->zw wv a1 (za V)->Calls Tryz.prog 177 #[.bool nb,.slice a1 (za V).length c1] wv (fun e w'=>∃v B,e=.returned v/\zc8 w' v B V (k1+k2+1)/\sgn B V=sgn nb V/\Below wv.heap.size wv w')):=
  fun nb V wv a1 c1 q0 q1 q2=>(zpZ nb c1 (k1+k2+1) q1 q2 (zg _) q0 hkr).mono fun e w' ⟨v,r1,r2,r3⟩=>⟨v,_,r1,r2,zlr nb V,r3⟩
 clear hv hu h2 g2 h3 g3 hn
 go_enter Tryz.func160,Tryz.ntmps160
 have hF:=zrq.mk' w n1 n2 a b l.length m.length c d 89
 go_wp2_with fail
 generalize((w.alloc (.cells #[.bool n1,.slice a l.length c] 89)).alloc (.cells #[.bool n2,.slice b m.length d] 89)).alloc (.cells #[.bool false,.slice none 0 0] 89)=W at *;obtain⟨HF,HH2,HG2⟩:=hd3 hF (H2.out.below hF.f.bl) (G2.out.below hF.f.bl);have HCm:=hid (zrH c d h1 g1 HH2.out HG2.out H3.out G3.out);clear hF H2 G2 hne
 refine HCm.out.mono ?_
 rintro e w1 ⟨rfl,n0,hw1⟩;have hb1:Below W.heap.size W w1:=by subst hw1;exact Below.drewN_refl _ _
 have HB1:=hid hb1;obtain⟨r0,r1,rf,rlt⟩:=HF.out.f.a.below hb1;obtain⟨s0,s1,sf,slt⟩:=HF.out.f.b.below hb1;clear hb1 HCm hw1
 by_cases hlt:x<y
 ·have hc:zdR x y= -1:=zfG hlt;obtain⟨HSw,HA5,HB5⟩:=hd3 (HF.out.swap HB1.out) (HF.out.swapU HB1.out (r:=.bool n2) (s:=.slice b m.length d) Yc Yc Yc (HH2.out.below HB1.out)) (HF.out.swapU HB1.out (r:=.bool n2) (s:=.slice b m.length d) Yc Yc Yc (HG2.out.below HB1.out));have hb5:Below w.heap.size w ((((w1.setCell ⟨w.heap.size,0,none⟩ (.bool n2)).setCell ⟨w.heap.size,1,none⟩ (.slice b m.length d)).setCell ⟨w.heap.size+1,0,none⟩ (.bool n1)).setCell ⟨w.heap.size+1,1,none⟩ (.slice a l.length c)):=
   zav (zav (HF.out.f.bl.trans (HB1.out.mono (by have:=HF.out.f.a.lt;omega))) (Za _) _ _) Ya _ _
  obtain⟨HBw,HZ,HLe⟩:=hd3 hb5 (zhM HN.out hlt) (show x<=y from Ya);have hsb:(za (y-x)).length<=k1+k2+1:=Jg;have HSb:=hid hsb;have fa0:=rf 0;have fa1:=rf 1;have fb0:=sf 0;have fb1:=sf 1;clear hb5 hsb rf sf hlt
  go_upto_region 5 with fail
  clear fa0 fa1 fb0 fb1;generalize((((w1.setCell ⟨w.heap.size,0,none⟩ (.bool n2)).setCell ⟨w.heap.size,1,none⟩ (.slice b m.length d)).setCell ⟨w.heap.size+1,0,none⟩ (.bool n1)).setCell ⟨w.heap.size+1,1,none⟩ (.slice a l.length c))=W5 at *;have HSub:=hid (zt2 d c g1 h1 HB5.out HA5.out G3.out H3.out hlr2 HLe.out);clear r0 r1 rlt s0 s1 slt hc;obtain⟨r0,r1,rf,rlt⟩:=HSw.out.a;obtain⟨s0,s1,sf,slt⟩:=HSw.out.b;clear rf sf
  go_wp2_with fail
  refine HSub.out.mono ?_
  rintro e w2 ⟨a1,c1,rfl,p1,p2,hb2⟩;obtain⟨HB2,HM⟩:=hd2 hb2 (HMk.out n2 (y-x) w2 a1 c1 HSb.out p1 p2);obtain⟨r0',r1',rf',rlt'⟩:=HSw.out.a.below hb2;clear p2 hb2 HSub r0 r1 rlt s0 s1 slt rf'
  go_wp2_with fail
  refine HM.out.mono ?_
  rintro e w3 ⟨v3,B,rfl,⟨a3,c3,l3,rfl,q1,q2,q3,q4⟩,hsg,q5⟩;have hS3:=HB2.out.trans (q5.mono HB2.out.size);obtain⟨t0,t1,tf,tlt⟩:=HSw.out.c.below hS3;have HI:=hid (zc8.store2 (b:=B) (HSw.out.nc.below hS3 HSw.out.c.lt) q1 q2 q3 q4);have hle:w.heap.size<=W5.heap.size:=HBw.out.size;obtain⟨HBf,HSg⟩:=hd2 (zav (p:=.bool B) (q:=.slice a3 l3.length c3) (HBw.out.trans (hS3.mono hle)) (show w.heap.size<=w.heap.size+1+1 from Ya)) (hsg.trans HZ.out);exact EC
 ·have hge:y<=x:=Ya;have hc:decide (zdR x y<0)=false:=by
   apply Zj
   unfold zdR;rw[Zg hlt]
   split<;>omega
  obtain⟨HSub,HZ⟩:=hd2 (zt2 c d h1 g1 (HH2.out.below HB1.out) (HG2.out.below HB1.out) H3.out G3.out hlr hge) (zhB HN.out hge);have hsb:(za (x-y)).length<=k1+k2+1:=Jh;have HSb:=hid hsb;clear hsb rf sf hlt
  go_wp2_with fail
  refine HSub.out.mono ?_
  rintro e w2 ⟨a1,c1,rfl,p1,p2,hb2⟩;have HB2:=htr HB1 hb2;have HM:=hid (HMk.out n1 (x-y) w2 a1 c1 HSb.out p1 p2);obtain⟨r0',r1',rf',rlt'⟩:=HF.out.f.a.below HB2.out;clear p2 hb2 HSub r0 r1 rlt s0 s1 slt rf' hc
  go_wp2_with fail
  refine HM.out.mono ?_
  rintro e w3 ⟨v3,B,rfl,⟨a3,c3,l3,rfl,q1,q2,q3,q4⟩,hsg,q5⟩;have hS3:=HB2.out.trans (q5.mono HB2.out.size);obtain⟨t0,t1,tf,tlt⟩:=HF.out.f.c.below hS3;obtain⟨HI,HBf,HSg⟩:=hd3 (zc8.store2 (b:=B) (HF.out.f.nc.below hS3 HF.out.f.c.lt) q1 q2 q3 q4) (zav (p:=.bool B) (q:=.slice a3 l3.length c3) (HF.out.f.bl.trans (hS3.mono (by have:=HF.out.f.a.lt;omega))) (show w.heap.size<=w.heap.size+1+1 from Ya)) (hsg.trans HZ.out);exact EC
theorem zuk{w:World}{v u:Value}{n1 n2:Bool}{x y k1 k2:Nat}(hv:zc8 w v n1 x k1)(hu:zc8 w u n2 y k2)(hr:k1+k2<=1759218604441):
  Calls Tryz.prog 160 #[v,u] w (zoU w (sgn n1 x+sgn n2 y) (k1+k2+1)):=by
 by_cases hn:n1=n2
 ·subst hn;exact znp hv hu hr
 ·exact zni hv hu hn hr
theorem iOf(w:World)(x:Int)(h1: -9223372036854775808<=x)(h2:x<=9223372036854775807):
  Calls Tryz.prog 87 #[.int .i64 x] w (zoU w x 2):=by
 have hR:=za1.alloc w (.bool false) (.slice none 0 0) 89;have hN:=zX.alloc w #[.bool false,.slice none 0 0] 89 Yc;obtain⟨HR,HN⟩:=hd2 hR hN;have hB0:=blA w (.cells #[.bool false,.slice none 0 0] 89);have HB:=hid hB0;clear hR hN hB0
 by_cases hx:x<0
 ·have hO:=fun wv=>nOf x.natAbs Ya wv
  rw[<- zoC h1 hx]at hO;have HO:=hid hO;have HX:Hid (sgn true x.natAbs=x):=by unfold Hid sgn;simp;omega
  have hlen:=zbx (n:=x.natAbs) Ya;have q1:decide (x<0)=true:=Zk hx;clear hO
  go_enter Tryz.func87,Tryz.ntmps87
  go_upto_region 1 with fail
  generalize w.alloc (.cells #[.bool false,.slice none 0 0] 89)=W at *
  go_wp2_with fail
  refine(HO.out _).mono ?_
  rintro e w1 ⟨a1,c1,rfl,k1,k2,hb1⟩;obtain⟨t0,t1,tf,tlt⟩:=HR.out.below hb1;obtain⟨HI,HBf⟩:=hd2 (zc8.store2 (b:=true) (HN.out.below hb1 HR.out.lt) k1 k2 (zg _) hlen) (zav (p:=.bool true) (q:=.slice a1 (za x.natAbs).length c1) (HB.out.trans (hb1.mono HB.out.size)) (Za _));clear k2 hb1;generalize za x.natAbs=L at *;go_wp2;exact Zp (v:=.agg #[.bool true,.slice a1 L.length c1]) Ji rfl ⟨_,true,_,rfl,HI.out,HX.out,HBf.out⟩
 ·obtain⟨n,rfl⟩:∃n:Nat,x=(n:Int):=⟨x.toNat,Ya⟩
  have HO:=hid (fun wv=>nOf n Ya wv);have HX:Hid (sgn false n=(n:Int)):=rfl;have hlen:=zbx (n:=n) Ya;have q1:decide ((n:Int)<0)=false:=Zj hx
  go_enter Tryz.func87,Tryz.ntmps87
  go_upto_region 1 with fail
  generalize w.alloc (.cells #[.bool false,.slice none 0 0] 89)=W at *
  go_wp2_with fail
  refine(HO.out _).mono ?_
  rintro e w1 ⟨a1,c1,rfl,k1,k2,hb1⟩;obtain⟨t0,t1,tf,tlt⟩:=HR.out.below hb1;obtain⟨HI,HBf⟩:=hd2 (zc8.store2 (b:=false) (HN.out.below hb1 HR.out.lt) k1 k2 (zg _) hlen) (zav (p:=.bool false) (q:=.slice a1 (za n).length c1) (HB.out.trans (hb1.mono HB.out.size)) (Za _));clear k2 hb1;generalize za n=L at *;go_wp2;exact Zp (v:=.agg #[.bool false,.slice a1 L.length c1]) Ji rfl ⟨_,false,_,rfl,HI.out,HX.out,HBf.out⟩
theorem zua{w:World}{v u:Value}{x y:zaf}(hv:RatV w v x)(hu:RatV w u y)(hx:zD x 1048575)(hy:zD y 1048575):
  Calls Tryz.prog 134 #[v,u] w (zcj w (zc (zT x*zT y))):=by
 obtain⟨HV,HU⟩:=hd2 hv hu;obtain⟨an,ad,cn,cd,rfl,a2,a3,a4,a5⟩:=hv.ex;obtain⟨bn,bd,dn,dd,rfl,b2,b3,b4,b5⟩:=hu.ex;have hQ:Hid (zc (zT x*zT y)=zbw (x.neg != y.neg) (zo x.num*zo y.num) (zr x.den*zr y.den)):=I8;obtain⟨hx1,hx2⟩:=hx;obtain⟨hy1,hy2⟩:=hy;have hl1:=a4.len;have hl2:=a5.len;have hl3:=b4.len;have hl4:=b5.len;obtain⟨A4,B4⟩:=hd2 a4 b4;have hml:(za (zo x.num*zo y.num)).length<=1099511627776:=Zi (zcO rfl rfl hx1 hy1 a4.lim b4.lim) Ya;have hdp:0<zr x.den*zr y.den:=Zak (zU _) (zU _);have HDp:=hid hdp;have hxd:x.den.length<=17592186044416:=Ya;have hyd:y.den.length<=17592186044416:=Ya;clear hv hu a4 a5 b4 b5 hdp
 go_enter Tryz.func134,Tryz.ntmps134
 go_wp2_with fail
 have hF:=zkJ.mk' w (.bool x.neg) (.slice an x.num.length cn) (.slice ad x.den.length cd) (.bool y.neg) (.slice bn y.num.length dn) (.slice bd y.den.length dd) 51;generalize((w.alloc (zbb x an cn ad cd 51)).alloc (zbb y bn dn bd dd 51)).alloc (zc9 51)=W at *;obtain⟨HF,HA4,HB4,HVW,HUW⟩:=hd5 hF (A4.out.below hF.bl) (B4.out.below hF.bl) (HV.out.below hF.bl) (HU.out.below hF.bl);have xbl:Below W.heap.size W W.drew:=(Ze _ _).drew;have tok1:True:=trivial;have tok2:True:=trivial;clear hF A4 B4 HV HU
 go_region_held3 (fun w'=>w'.cell? ⟨w.heap.size,0,none⟩=some (.bool x.neg)/\w'.cell? ⟨w.heap.size,1,none⟩=some (.slice an x.num.length cn)/\w'.cell? ⟨w.heap.size,2,none⟩=some (.slice ad x.den.length cd)/\
   w'.cell? ⟨w.heap.size+1,0,none⟩=some (.bool y.neg)/\w'.cell? ⟨w.heap.size+1,1,none⟩=some (.slice bn y.num.length dn)/\w'.cell? ⟨w.heap.size+1,2,none⟩=some (.slice bd y.den.length dd))
  (first|exact za8 HF.out.a HF.out.b HF.out.a.lt HF.out.b.lt ‹Below W.heap.size W _› | exact za8 (B:=w.heap.size+1+1) HF.out.a HF.out.b (Nat.lt_succ_of_lt (Zaa _)) (Zaa _) (zu (hS5.mono (Zan HF.out.c.lt)) (Za _) _ _ _))
  (first
   | (go_at_call 161; have _t := tok1; clear tok1; have hS := ‹Below W.heap.size W _›; refine (zs6 cn dn a2 b2 (HA4.out.below hS) (HB4.out.below hS) rfl rfl Ya).mono ?_; rintro e w1 ⟨a1, c1, rfl, g1, g2, g3⟩
      have hS1:=hS.trans (g3.mono hS.size);have G2:=hid g2;clear g2)
   | (go_at_call 150; have _t := tok2; clear tok2; have hS := ‹Below W.heap.size W _›; refine (zgB (HVW.out.below hS) hxd).mono ?_; rintro e w2 ⟨a2', c2, l2, rfl, p1, p2, p3, p4, p5⟩
      have hS2:=hS.trans (p5.mono hS.size);have G2b:=hid (G2.out.below p5);have P2:=hid p2;have P3:=hid p3;clear p2 p3)
   | (go_at_call 150; have hS := ‹Below W.heap.size W _›; refine (zgB (HUW.out.below hS) hyd).mono ?_; rintro e w3 ⟨a3', c3, l3, rfl, q1, q2, q3, q4, q5⟩
      have hS3:=hS.trans (q5.mono hS.size);have G2c:=hid (G2b.out.below q5);have P2b:=hid (P2.out.below q5);have Q2:=hid q2;have Q3:=hid q3;clear q2 q3)
   | (go_at_call 161; have hS := ‹Below W.heap.size W _›; refine (zs6 c2 c3 p1 q1 P2b.out Q2.out P3.out Q3.out Ya).mono ?_; rintro e w4 ⟨a4, c4, rfl, t1, t2, t3⟩
      have hS4:=hS.trans (t3.mono hS.size);have G2d:=hid (G2c.out.below t3);have T2:=hid t2;clear t2;have hdl:(za (zr x.den*zr y.den)).length<=1099511627776:=Zi (zcO P3.out Q3.out p4 q4 P2b.out.lim Q2.out.lim) Ya)
   | (go_at_call 128; have hS := ‹Below W.heap.size W _›; refine (zod (x.neg != y.neg) c1 c4 g1 t1 G2d.out T2.out (zg _) (zg _) hml hdl HDp.out).mono ?_
      rintro e w5 ⟨v5,rfl,⟨bn',bd',m1,m2,rfl,k3,k4,k5,k6⟩,k2⟩;have hS5:=hS.trans (k2.mono hS.size);obtain⟨r0,r1,r2,rf,rlt⟩:=HF.out.c.below hS5;obtain⟨hN5,K5,K6⟩:=hd3 (HF.out.nc.below hS5 HF.out.c.lt) k5 k6;have hB5:=hid (HF.out.bl.trans (hS5.mono Yv))))
 generalize zbw (x.neg != y.neg) (zo x.num*zo y.num) (zr x.den*zr y.den)=R at *;go_wp2;exact Zp (v:=.agg #[.bool R.neg,.slice bn' R.num.length m1,.slice bd' R.den.length m2]) (by simp[results,Tryz.results134,go_sem,r0,r1,r2]) rfl ⟨_,rfl,YW,zu hB5.out Ya _ _ _⟩
theorem zn4{B:Nat}{W w1:World}{g h:Nat}{p q r s t u b c:Value}(ha:za4 W g p q r)(hb:za4 W (g+1) s t u)(hi:za1 W h b c)(h1:g<B)(h2:g+1<B)(hl:Below B W w1)(hk:∀o,w1.cell? ⟨h,o,none⟩=W.cell? ⟨h,o,none⟩):
  w1.cell? ⟨g,0,none⟩=some p/\w1.cell? ⟨g,1,none⟩=some q/\w1.cell? ⟨g,2,none⟩=some r/\w1.cell? ⟨g+1,0,none⟩=some s/\w1.cell? ⟨g+1,1,none⟩=some t/\w1.cell? ⟨g+1,2,none⟩=some u/\w1.cell? ⟨h,0,none⟩=some b/\w1.cell? ⟨h,1,none⟩=some c:=
 ⟨(hl.cell (p:=⟨g,0,none⟩) h1).trans ha.c0,(hl.cell (p:=⟨g,1,none⟩) h1).trans ha.c1,(hl.cell (p:=⟨g,2,none⟩) h1).trans ha.c2,(hl.cell (p:=⟨g+1,0,none⟩) h2).trans hb.c0,(hl.cell (p:=⟨g+1,1,none⟩) h2).trans hb.c1,(hl.cell (p:=⟨g+1,2,none⟩) h2).trans hb.c2,(hk 0).trans hi.c0,(hk 1).trans hi.c1⟩
theorem ztJ{w:World}{g h:Nat}(hne:g≠h)(p q r:Value)(o:Nat):(((w.setCell ⟨g,0,none⟩ p).setCell ⟨g,1,none⟩ q).setCell ⟨g,2,none⟩ r).cell? ⟨h,o,none⟩=w.cell? ⟨h,o,none⟩:=(zeS hne).trans ((zeS hne).trans (zeS hne))
theorem zt9{w:World}{v u:Value}{x y:zaf}(hv:RatV w v x)(hu:RatV w u y)(hx:zD x 1048575)(hy:zD y 1048575):
  Calls Tryz.prog 133 #[v,u] w (zcj w (zc (zT x+zT y))):=by
 obtain⟨HV,HU⟩:=hd2 hv hu;obtain⟨an,ad,cn,cd,rfl,a2,a3,a4,a5⟩:=hv.ex;obtain⟨bn,bd,dn,dd,rfl,b2,b3,b4,b5⟩:=hu.ex;obtain⟨hx1,hx2⟩:=hx;obtain⟨hy1,hy2⟩:=hy;have hdp:0<zr x.den*zr y.den:=Zak (zU _) (zU _);have HDp:=hid hdp;have hxd:x.den.length<=17592186044416:=Ya;have hyd:y.den.length<=17592186044416:=Ya;clear hv hu a4 a5 b4 b5 hdp
 go_enter Tryz.func133,Tryz.ntmps133
 go_wp2_with fail
 have hF:=zkJ.mk' w (.bool x.neg) (.slice an x.num.length cn) (.slice ad x.den.length cd) (.bool y.neg) (.slice bn y.num.length dn) (.slice bd y.den.length dd) 51;generalize((w.alloc (zbb x an cn ad cd 51)).alloc (zbb y bn dn bd dd 51)).alloc (zc9 51)=W at *;obtain⟨HF,HVW,HUW⟩:=hd3 hF (HV.out.below hF.bl) (HU.out.below hF.bl);have HX:=hid (zsk HVW.out HUW.out Ya Ya Ya Ya);clear hF HV HU
 refine HX.out.mono ?_
 rintro e w1 ⟨v1,v2,n1,n2,rfl,i1,i2,e1,e2,hb1⟩;obtain⟨pa,pc,pl,rfl,q1,q2,q3,q4⟩:=i1.ex;obtain⟨sa,sc,sl,rfl,t1,t2,t3,t4⟩:=i2.ex;obtain⟨HB1,Q2,Q3,T2,T3⟩:=hd5 hb1 q2 q3 t2 t3;clear i1 i2 hb1 q2 q3 t2 t3 HX
 go_upto_region 2 with fail
 have hb12:Below w1.heap.size w1 ((w1.alloc (.cells #[.bool n1,.slice pa pl.length pc] 89)).alloc (.cells #[.bool n2,.slice sa sl.length sc] 89)):=((Ze _ _).alloc (Za _) _).alloc Yc _;have HP:=hid ((za1.alloc w1 (.bool n1) (.slice pa pl.length pc) 89).below ((Ze _ _).alloc (Za _) (.cells #[.bool n2,.slice sa sl.length sc] 89)));have hS:=za1.alloc (w1.alloc (.cells #[.bool n1,.slice pa pl.length pc] 89)) (.bool n2) (.slice sa sl.length sc) 89;simp only[Zbg]at hS;have HS:=hid hS;clear hS;generalize(w1.alloc (.cells #[.bool n1,.slice pa pl.length pc] 89)).alloc (.cells #[.bool n2,.slice sa sl.length sc] 89)=W2 at *;have HB2:=htr HB1 hb12;have hI1:zc8 W2 (.agg #[.bool n1,.slice pa pl.length pc]) n1 (zo x.num*zr y.den) (x.num.length+y.den.length+1):=⟨pa,pc,pl,rfl,q1,Q2.out.below hb12,Q3.out,q4⟩
 have hI2:zc8 W2 (.agg #[.bool n2,.slice sa sl.length sc]) n2 (zo y.num*zr x.den) (y.num.length+x.den.length+1):=⟨sa,sc,sl,rfl,t1,T2.out.below hb12,T3.out,t4⟩
 have hAd:=zuk hI1 hI2 Ya;rw[e1,e2]at hAd;have HAd:=hid hAd;obtain⟨x0,x1,_,xlt⟩:=HP.out;obtain⟨y0,y1,_,ylt⟩:=HS.out;clear hI1 hI2 hAd e1 e2 hb12 Q2 Q3 T2 T3
 go_wp2_with fail
 refine HAd.out.mono ?_
 rintro e w3 ⟨v3,n3,m3,rfl,i3,e3,hb3⟩;obtain⟨ra,rc,rl,rfl,o1,o2,o3,o4⟩:=i3.ex;have hb4:=blA w3 (.cells #[.bool n3,.slice ra rl.length rc] 89);obtain⟨HH,HB4,HO2,HO3⟩:=hd4 (za1.alloc w3 (.bool n3) (.slice ra rl.length rc) 89) (HB2.out.trans ((hb3.trans (hb4.mono hb3.size)).mono HB2.out.size)) (o2.below hb4) o3;have hE3:Hid (zbw n3 m3 (zr x.den*zr y.den)=zc (zT x+zT y)):=by
  unfold Hid;rw[zb4 _ _ HDp.out,e3]
  congr 1
  exact zt0 _ _ _ _ (zU _) (zU _)
 have hgr:w.heap.size+1+1<w3.heap.size:=Zb HF.out.c.lt (Zi HB2.out.size hb3.size);have ho4:rl.length<=1099511627776:=Ya;clear i3 e3 hb3 hb4 o2 o3 HAd x0 x1 xlt y0 y1 ylt HB1 HB2 HP HS
 go_upto_region 3 with fail
 obtain⟨h,hh⟩:∃h,h=w3.heap.size:=⟨_,rfl⟩
 rw[<- hh]at HH hgr⊢;generalize w3.alloc (.cells #[.bool n3,.slice ra rl.length rc] 89)=W4 at *;obtain⟨HVx,HUx,HF4⟩:=hd3 (HVW.out.below HB4.out) (HUW.out.below HB4.out) (HF.out.below HB4.out);have hne:w.heap.size+1+1≠h:=Ya;have xbl:Below W4.heap.size W4 W4.drew:=(Ze _ _).drew;have tok1:True:=trivial;clear hh hgr HVW HUW HF HB4;generalize zc (zT x+zT y)=R at *
 go_region_held3 (fun w'=>w'.cell? ⟨w.heap.size,0,none⟩=some (.bool x.neg)/\w'.cell? ⟨w.heap.size,1,none⟩=some (.slice an x.num.length cn)/\w'.cell? ⟨w.heap.size,2,none⟩=some (.slice ad x.den.length cd)/\
   w'.cell? ⟨w.heap.size+1,0,none⟩=some (.bool y.neg)/\w'.cell? ⟨w.heap.size+1,1,none⟩=some (.slice bn y.num.length dn)/\w'.cell? ⟨w.heap.size+1,2,none⟩=some (.slice bd y.den.length dd)/\w'.cell? ⟨h,0,none⟩=some (.bool n3)/\w'.cell? ⟨h,1,none⟩=some (.slice ra rl.length rc))
  (first|exact zn4 HF4.out.a HF4.out.b HH.out HF4.out.a.lt HF4.out.b.lt ‹Below W4.heap.size W4 _› (fun o=>(‹Below W4.heap.size W4 _›).cell (p:=⟨h,o,none⟩) HH.out.lt)|exact zn4 (B:=w.heap.size+1+1) HF4.out.a HF4.out.b HH.out (Nat.lt_succ_of_lt (Zaa _)) (Zaa _) (zu (hS5.mono (Zan HF4.out.c.lt)) (Za _) _ _ _) (fun o=>(ztJ hne _ _ _ o).trans (hS5.cell (p:=⟨h,o,none⟩) HH.out.lt)))
  (first
   | (go_at_call 150; have _t := tok1; clear tok1; have hS := ‹Below W4.heap.size W4 _›; refine (zgB (HVx.out.below hS) hxd).mono ?_; rintro e w5 ⟨a2', c2, l2, rfl, p1, p2, p3, p4, p5⟩
      have hS2:=hS.trans (p5.mono hS.size);have P2:=hid p2;have P3:=hid p3;clear p2 p3)
   | (go_at_call 150; have hS := ‹Below W4.heap.size W4 _›; refine (zgB (HUx.out.below hS) hyd).mono ?_; rintro e w6 ⟨a3', c3, l3, rfl, q1', q2', q3', q4', q5'⟩
      have hS3:=hS.trans (q5'.mono hS.size);have P2b:=hid (P2.out.below q5');have Q2':=hid q2';have Q3':=hid q3';clear q2' q3')
   | (go_at_call 161; have hS := ‹Below W4.heap.size W4 _›; refine (zs6 c2 c3 p1 q1' P2b.out Q2'.out P3.out Q3'.out Ya).mono ?_; rintro e w7 ⟨a4, c4, rfl, z1, z2, z3⟩
      have hS4:=hS.trans (z3.mono hS.size);have Z2:=hid z2;clear z2;have hdl:(za (zr x.den*zr y.den)).length<=1099511627776:=Zi (zcO P3.out Q3'.out p4 q4' P2b.out.lim Q2'.out.lim) Ya)
   | (go_at_call 128; have hS := ‹Below W4.heap.size W4 _›; refine (zod n3 rc c4 o1 z1 (HO2.out.below hS) Z2.out HO3.out (zg _) ho4 hdl HDp.out).mono ?_; rw [hE3.out]
      rintro e w8 ⟨v5,rfl,⟨bn',bd',m1,m2,rfl,k3,k4,k5,k6⟩,k2⟩;have hS5:=hS.trans (k2.mono hS.size);obtain⟨r0,r1,r2,rf,rlt⟩:=HF4.out.c.below hS5;obtain⟨hN5,K5,K6⟩:=hd3 (HF4.out.nc.below hS5 HF4.out.c.lt) k5 k6;have hB5:=hid (HF4.out.bl.trans (hS5.mono (by have:=HF4.out.a.lt;omega)))))
 go_wp2;exact Zp (v:=.agg #[.bool R.neg,.slice bn' R.num.length m1,.slice bd' R.den.length m2]) (by simp[results,Tryz.results133,go_sem,r0,r1,r2]) rfl ⟨_,rfl,RatV.store hN5.out k3 k4 K5.out K6.out,zu hB5.out Ya _ _ _⟩
structure ztw (w W:World) (g:Nat) (p q:Value):Prop where
 a:za1 W g p q
 c:za4 W (g+1) (.bool false) (.slice none 0 0) (.slice none 0 0)
 nc:zX W (g+1)
 bl:Below g w W
theorem ztw.mk'(w:World)(p q:Value)(T T':Nat):ztw w ((w.alloc (.cells #[p,q] T)).alloc (.cells #[.bool false,.slice none 0 0,.slice none 0 0] T')) w.heap.size p q:=by
 have step:∀(W:World) (o:Obj),Below W.heap.size W (W.alloc o):=fun W o=>(Ze _ _).alloc (Za _) _
 have s1:=step w (.cells #[p,q] T);have s3:=step (w.alloc (.cells #[p,q] T)) (.cells #[.bool false,.slice none 0 0,.slice none 0 0] T');have b1:=za1.alloc w p q T;have b3:=za4.alloc (w.alloc (.cells #[p,q] T)) (.bool false) (.slice none 0 0) (.slice none 0 0) T';have n3:=zX.alloc (w.alloc (.cells #[p,q] T)) #[.bool false,.slice none 0 0,.slice none 0 0] T' Yc;exact Id
theorem zmX{W w1:World}{g:Nat}{p q:Value}{B:Nat}(ha:za1 W g p q)(h1:g<B)(hl:Below B W w1):w1.cell? ⟨g,0,none⟩=some p/\w1.cell? ⟨g,1,none⟩=some q:=
 ⟨(hl.cell (p:=⟨g,0,none⟩) h1).trans ha.c0,(hl.cell (p:=⟨g,1,none⟩) h1).trans ha.c1⟩
theorem zl7(neg:Bool)(n:Nat):zbw neg n 1=zc ((sgn neg n:Int):Rat):=by
 rw[zb4 _ _ Yd,Zby]
theorem zsy{w:World}{v:Value}{neg:Bool}{n k:Nat}(hv:zc8 w v neg n k)(hr:k<=1099511627776):
  Calls Tryz.prog 86 #[v] w (zcj w (zc ((sgn neg n:Int):Rat))):=by
 obtain⟨a,c,l,rfl,h1,h2,h3,h4⟩:=hv.ex;obtain⟨H2,H3,hQ⟩:=hd3 h2 h3 (zl7 neg n);have hlr:l.length<=1099511627776:=Ya;clear hv h2 h3
 go_enter Tryz.func86,Tryz.ntmps86
 go_wp2_with fail
 have hF:=ztw.mk' w (.bool neg) (.slice a l.length c) 89 51;generalize(w.alloc (.cells #[.bool neg,.slice a l.length c] 89)).alloc (zc9 51)=W at *;obtain⟨HF,HU⟩:=hd2 hF (H2.out.below hF.bl);have xbl:Below W.heap.size W W.drew:=(Ze _ _).drew;clear hF H2;generalize zc ((sgn neg n:Int):Rat)=R at *
 go_region_held3 (fun w'=>w'.cell? ⟨w.heap.size,0,none⟩=some (.bool neg)/\w'.cell? ⟨w.heap.size,1,none⟩=some (.slice a l.length c))
  (first|exact zmX HF.out.a HF.out.a.lt ‹Below W.heap.size W _› | exact zmX (B:=w.heap.size+1) HF.out.a (Zaa _) (zu (hS2.mono (Zan HF.out.c.lt)) (Za _) _ _ _))
  (first
   | (go_at_call 129; have hS := ‹Below W.heap.size W _›; refine (zt5 _).mono ?_; rintro e w1 ⟨⟨a1, rfl, p2⟩, p3⟩
      have hS1:=hS.trans (p3.mono hS.size);have P2:=hid p2;clear p2)
   | (go_at_call 128; have hS := ‹Below W.heap.size W _›; refine (zod (m := [1]) neg c 1 h1 (Za _) (HU.out.below hS) P2.out H3.out (show zo [1] = 1 from rfl) hlr Yc Yd).mono ?_; rw [hQ.out]
      rintro e w2 ⟨v5,rfl,⟨bn',bd',m1,m2,rfl,k3,k4,k5,k6⟩,k2⟩;have hS2:=hS.trans (k2.mono hS.size);obtain⟨r0,r1,r2,rf,rlt⟩:=HF.out.c.below hS2;obtain⟨hN5,K5,K6⟩:=hd3 (HF.out.nc.below hS2 HF.out.c.lt) k5 k6;have hB5:=hid (HF.out.bl.trans (hS2.mono Yv))))
 go_wp2;exact Zp (v:=.agg #[.bool R.neg,.slice bn' R.num.length m1,.slice bd' R.den.length m2]) (by simp[results,Tryz.results86,go_sem,r0,r1,r2]) rfl ⟨_,rfl,RatV.store hN5.out k3 k4 K5.out K6.out,zu hB5.out Ya _ _ _⟩
theorem rOf(w:World)(x:Int)(h1: -9223372036854775808<=x)(h2:x<=9223372036854775807):
  Calls Tryz.prog 54 #[.int .i64 x] w (zcj w (zc (x:Rat))):=by
 have hR:=za4.alloc w (.bool false) (.slice none 0 0) (.slice none 0 0) 51;have hN:=zX.alloc w #[.bool false,.slice none 0 0,.slice none 0 0] 51 Yc;have hB0:=blA w (zc9 51);obtain⟨HO,HR,HN,HB⟩:=hd4 (fun wv=>iOf wv x h1 h2) hR hN hB0;clear hR hN hB0
 go_enter Tryz.func54,Tryz.ntmps54
 go_upto_region 1 with fail
 generalize w.alloc (zc9 51)=W at *
 go_wp2_with fail
 refine(HO.out _).mono ?_
 rintro e w1 ⟨v1,s1,m1,rfl,i1,e1,hb⟩;have hW:=zsy i1 Yd;rw[e1]at hW;obtain⟨HW,HR2,HN2⟩:=hd3 hW (HR.out.below hb) (HN.out.below hb HR.out.lt);have HB2:=htr HB hb;clear HO hb HR HN HB hW i1 e1;generalize zc (x:Rat)=R at *
 go_wp2_with fail
 refine HW.out.mono ?_
 rintro e w2 ⟨v2,rfl,⟨bn',bd',m1,m2,rfl,k3,k4,k5,k6⟩,k2⟩;obtain⟨r0,r1,r2,rf,rlt⟩:=HR2.out.below k2;obtain⟨hN5,K5,K6⟩:=hd3 (HN2.out.below k2 HR2.out.lt) k5 k6;have hB5:=htr HB2 k2;clear HW k5 k6 k2;go_wp2;exact Zp (v:=.agg #[.bool R.neg,.slice bn' R.num.length m1,.slice bd' R.den.length m2]) (by simp[results,Tryz.results54,go_sem,r0,r1,r2]) rfl ⟨_,rfl,RatV.store hN5.out k3 k4 K5.out K6.out,zu hB5.out (Za _) _ _ _⟩
def zc7(p q:Rat):Rat:=if q<=p then p else q
def zht(ws:List Rat)(off:Nat)(ix:List Int)(x:List Rat)(k:Nat):Rat:=if 0<=ix.getD k 0 then ws.getD (off+k) 0*x.getD (ix.getD k 0).toNat 0 else 0
def zgc(b:Rat)(ws:List Rat)(off:Nat)(ix:List Int)(x:List Rat):Nat->Rat
 | 0=>b
 | k+1=>zgc b ws off ix x k+zht ws off ix x k
def zqD(b:Rat)(ws:List Rat)(off:Nat)(ix:List Int)(x:List Rat):Rat:=zgc b ws off ix x ix.length
theorem zn5{b:Rat}{ws:List Rat}{off:Nat}{ix:List Int}{x:List Rat}{k:Nat}(h:¬ 0<=ix.getD k 0):zgc b ws off ix x (k+1)=zgc b ws off ix x k:=by
 show zgc b ws off ix x k+zht ws off ix x k=_
 unfold zht;rw[Zg h,Za5]
theorem zoa{b:Rat}{ws:List Rat}{off:Nat}{ix:List Int}{x:List Rat}{k n:Nat}(h:ix.getD k 0=(n:Int)):zgc b ws off ix x (k+1)=zgc b ws off ix x k+ws.getD (off+k) 0*x.getD n 0:=by
 show zgc b ws off ix x k+zht ws off ix x k=_
 unfold zht;rw[h,Zm Ya,ZaH]
def zau(ix:List Int)(x:List Rat):List Rat:=ix.map fun i=>x.getD i.toNat 0
def zhk(l:List Rat):Nat->Rat
 | 0=>l.getD 0 0
 | k+1=>zc7 (zhk l k) (l.getD (k+1) 0)
def zjI(l:List Rat):Nat->Rat
 | 0=>l.getD 0 0
 | k+1=>zjI l k+l.getD (k+1) 0
def zdV(l:List Rat):Rat:=zhk l (l.length-1)
def zf0(l:List Rat):Rat:=zjI l (l.length-1)/((l.length:Int):Rat)
theorem zg7(ix:List Int)(x:List Rat):(zau ix x).length=ix.length:=by simp[zau]
theorem zgj{ix:List Int}{x:List Rat}{k n:Nat}(hk:k<ix.length)(h:ix.getD k 0=(n:Int)):(zau ix x).getD k 0=x.getD n 0:=by
 unfold zau;rw[Zd,ZN];rw[Zd]at h;rw[Zh hk]at h⊢;simp only[Option.map_some,Option.getD_some]at h⊢;rw[h,ZaH]
theorem za4.farB{w:World}{g h:Nat}{p q r:Value}(hb:za4 w g p q r)(hne:h≠g)(o:Nat)(v:Value):za4 (w.setCell ⟨h,o,none⟩ v) g p q r:=
 ⟨(zeS hne).trans hb.c0,(zeS hne).trans hb.c1,(zeS hne).trans hb.c2,fun i=>by simp[Zai,hb.free],Ub⟩
theorem za4.storeB{w:World}{g:Nat}{p q r:Value}(h:za4 w g p q r)(p' q' r':Value):za4 (((w.setCell ⟨g,0,none⟩ p').setCell ⟨g,1,none⟩ q').setCell ⟨g,2,none⟩ r') g p' q' r':=by
 refine⟨?_,?_,?_,?_,Kw⟩
 ·rw[ZA _ _ _ _ Yo,ZA _ _ _ _ Yo];exact I2
 ·rw[ZA _ _ _ _ Yo];exact E4
 ·exact EQ
 ·intro o;simp[Zai,h.free o]
structure zem (W:World) (g:Nat) (x:zaf):Prop where
 ex:∃an ad cn cd,za4 W g (.bool x.neg) (.slice an x.num.length cn) (.slice ad x.den.length cd)/\x.num.length<=cn/\x.den.length<=cd/\zw W an x.num/\zw W ad x.den
 nc:zX W g
theorem zem.lt{W:World}{g:Nat}{x:zaf}(h:zem W g x):g<W.heap.size:=by
 obtain⟨⟨an,ad,cn,cd,h1,_⟩,_⟩:=h;exact h1.lt
theorem zem.below{W W':World}{g:Nat}{x:zaf}(h:zem W g x)(hb:Below W.heap.size W W'):zem W' g x:=by
 obtain⟨⟨an,ad,cn,cd,h1,h2,h3,h4,h5⟩,h6⟩:=h;exact⟨⟨an,ad,cn,cd,h1.below hb,h2,h3,h4.below hb,h5.below hb⟩,h6.below hb h1.lt⟩
theorem zem.alloc{W:World}{an ad:Option Addr}{cn cd:Nat}{x:zaf}(h2:x.num.length<=cn)(h3:x.den.length<=cd)(h4:zw W an x.num)(h5:zw W ad x.den)(T:Nat):
  zem (W.alloc (.cells #[.bool x.neg,.slice an x.num.length cn,.slice ad x.den.length cd] T)) W.heap.size x:=
 have hb:Below W.heap.size W (W.alloc (.cells #[.bool x.neg,.slice an x.num.length cn,.slice ad x.den.length cd] T)):=(Ze _ W).alloc (Za _) _
 ⟨⟨an,ad,cn,cd,za4.alloc W _ _ _ T,h2,h3,h4.below hb,h5.below hb⟩,zX.alloc W _ T Yc⟩
theorem zem.store{W:World}{g:Nat}{x y:zaf}(h:zem W g x){bn bd:Option Addr}{dn dd:Nat}(g2:y.num.length<=dn)(g3:y.den.length<=dd)(g4:zw W bn y.num)(g5:zw W bd y.den):
  zem (((W.setCell ⟨g,0,none⟩ (.bool y.neg)).setCell ⟨g,1,none⟩ (.slice bn y.num.length dn)).setCell ⟨g,2,none⟩ (.slice bd y.den.length dd)) g y:=by
 obtain⟨⟨an,ad,cn,cd,h1,_⟩,hN⟩:=h;exact⟨⟨bn,bd,dn,dd,h1.storeB _ _ _,g2,g3,((g4.setCell hN _ _).setCell (hN.setCell _ _ Yc) _ _).setCell ((hN.setCell _ _ Yc).setCell _ _ Yc) _ _,
  ((g5.setCell hN _ _).setCell (hN.setCell _ _ Yc) _ _).setCell ((hN.setCell _ _ Yc).setCell _ _ Yc) _ _⟩,((hN.setCell _ _ Yc).setCell _ _ Yc).setCell _ _ Yc⟩
structure zjR (W:World) (h:Nat):Prop where
 c:za4 W h (.bool false) (.slice none 0 0) (.slice none 0 0)
 nc:zX W h
theorem zjR.below{W W':World}{h:Nat}(n:zjR W h)(hb:Below W.heap.size W W'):zjR W' h:=⟨n.c.below hb,n.nc.below hb n.c.lt⟩
theorem zjR.far3{W:World}{g h:Nat}(n:zjR W h)(hne:g≠h)(p q r:Value):zjR (((W.setCell ⟨g,0,none⟩ p).setCell ⟨g,1,none⟩ q).setCell ⟨g,2,none⟩ r) h:=
 ⟨((n.c.farB hne _ _).farB hne _ _).farB hne _ _,((n.nc.far hne _ _).far hne _ _).far hne _ _⟩
theorem zjR.alloc(W:World)(T:Nat):zjR (W.alloc (.cells #[.bool false,.slice none 0 0,.slice none 0 0] T)) W.heap.size:=⟨za4.alloc W _ _ _ T,zX.alloc W _ T Yc⟩
theorem zjR.put{W:World}{h:Nat}(n:zjR W h){y:zaf}{bn bd:Option Addr}{dn dd:Nat}(g2:y.num.length<=dn)(g3:y.den.length<=dd)(g4:zw W bn y.num)(g5:zw W bd y.den):
  za4 (((W.setCell ⟨h,0,none⟩ (.bool y.neg)).setCell ⟨h,1,none⟩ (.slice bn y.num.length dn)).setCell ⟨h,2,none⟩ (.slice bd y.den.length dd)) h (.bool y.neg) (.slice bn y.num.length dn) (.slice bd y.den.length dd)/\
  RatV (((W.setCell ⟨h,0,none⟩ (.bool y.neg)).setCell ⟨h,1,none⟩ (.slice bn y.num.length dn)).setCell ⟨h,2,none⟩ (.slice bd y.den.length dd)) (.agg #[.bool y.neg,.slice bn y.num.length dn,.slice bd y.den.length dd]) y:=
 ⟨n.c.storeB _ _ _,RatV.store n.nc g2 g3 g4 g5⟩
theorem zj1{w W:World}{g:Nat}(hb:Below g w W)(p q r:Value):Below g w (((W.setCell ⟨g,0,none⟩ p).setCell ⟨g,1,none⟩ q).setCell ⟨g,2,none⟩ r):=zu hb (Za _) _ _ _
structure SmI (w wr:World) (b:Rat) (ws:List Rat) (ix:List Int) (x:List Rat) (k:Nat):Prop where
 box:zem wr w.heap.size (zc (zgc b ws 0 ix x k))
 res:zjR wr (w.heap.size+1)
 bl:Below w.heap.size w wr
theorem SmI.step{w wr W:World}{b:Rat}{ws:List Rat}{ix:List Int}{x:List Rat}{k k':Nat}{y:zaf}{bn bd:Option Addr}{dn dd:Nat}(h:SmI w wr b ws ix x k)(hb:Below wr.heap.size wr W)(hy:zc (zgc b ws 0 ix x k')=y)
 (g2:y.num.length<=dn)(g3:y.den.length<=dd)(g4:zw W bn y.num)(g5:zw W bd y.den):
  SmI w (((W.setCell ⟨w.heap.size,0,none⟩ (.bool y.neg)).setCell ⟨w.heap.size,1,none⟩ (.slice bn y.num.length dn)).setCell ⟨w.heap.size,2,none⟩ (.slice bd y.den.length dd)) b ws ix x k':=by
 refine⟨?_,(h.res.below hb).far3 Ya _ _ _,zj1 (h.bl.trans (hb.mono h.bl.size)) _ _ _⟩
 rw[hy];exact(h.box.below hb).store g2 g3 g4 g5
theorem zeD{α:Type}{l:List α}{k:Nat}{x d:α}(h:l[k]? =some x):l.getD k d=x:=by rw[Zd,h];rfl
theorem za5{l:List Rat}{k:Nat}{u:zaf}(h:(l.map zc)[k]? =some u):zT u=l.getD k 0/\u=zc (l.getD k 0):=by
 rw[ZN]at h
 cases hx:l[k]? with
 | none=>rw[hx]at h;cases h
 | some q=>
  rw[hx]at h;simp only[Option.map_some,ZaG]at h;subst h;rw[zeD hx,zH];exact⟨rfl,rfl⟩
theorem zqM{w:World}{vb:Value}{b:Rat}{aw ai ax:Option Addr}{ws:List Rat}{ix:List Int}{x:List Rat}{F:Nat->Prop}(cw ci cx:Nat)(hv:RatV w vb (zc b))(hW:zm w aw (ws.map zc))(hI:zah w F ai ix)(hX:zm w ax (x.map zc))
 (hlen:ix.length<=ws.length)(hix:∀k n:Nat,k<ix.length->ix.getD k 0=(n:Int)->n<x.length)(hw1:∀q∈ws,zD (zc q) 1048575)(hx1:∀q∈x,zD (zc q) 1048575)
 (hp:∀p∈ws,∀q∈x,zD (zc (p*q)) 524286)(hs:∀k,k<=ix.length->zD (zc (zgc b ws 0 ix x k)) 524286):
  Calls Tryz.prog 101 #[vb,.slice aw ws.length cw,.slice ai ix.length ci,.slice ax x.length cx] w (zcj w (zc (zqD b ws 0 ix x))):=by
 obtain⟨an,ad,cn,cd,rfl,b2,b3,b4,b5⟩:=hv.ex;have hwl:=hW.len;have hxl:=hX.len;have hil:=hI.len;simp only[Zv]at hwl hxl;obtain⟨HW,HI0,HX,HIx,Hw1,Hx1⟩:=hd6 hW hI hX hix hw1 hx1;obtain⟨Hp,Hs⟩:=hd2 hp hs;have hst:=fun(W:World) (o:Obj)=>(Ze W.heap.size W).alloc (Za _) o
 have hSm:SmI w ((w.alloc (.cells #[.bool (zc b).neg,.slice an (zc b).num.length cn,.slice ad (zc b).den.length cd] 51)).alloc (zc9 51)) b ws ix x 0:=by
  refine⟨(zem.alloc b2 b3 b4 b5 _).below (hst _ _),?_,(hst _ _).trans ((hst _ _).mono Yc)⟩
  have:=zjR.alloc (w.alloc (.cells #[.bool (zc b).neg,.slice an (zc b).num.length cn,.slice ad (zc b).den.length cd] 51)) 51
  simpa using this
 have HSm:=hid hSm;have HEnd:Hid (zc (zqD b ws 0 ix x)=zc (zgc b ws 0 ix x ix.length)):=rfl;generalize zc (zqD b ws 0 ix x)=RR at *;clear hv hW hI hX hix hw1 hx1 hp hs hst hSm b4 b5
 go_enter Tryz.func101,Tryz.ntmps101
 go_upto_region 1 with fail
 generalize(w.alloc (.cells #[.bool (zc b).neg,.slice an (zc b).num.length cn,.slice ad (zc b).den.length cd] 51)).alloc (zc9 51)=W0 at *;go_wp2
 go_loopw [9] (fun i wr=>∃k:Nat,k<=ix.length/\i=.int .i64 (k:Int)/\Hid (SmI w wr b ws ix x k)) (fun i _=>ix.length-(intOf i).toNat)
 case atStart=>exact⟨0,Zs _,rfl,HSm.out⟩
 case round=>
  obtain⟨k,hk,rfl,HI⟩:=hrel
  by_cases hlt:k<ix.length
  ·obtain⟨bi,oi,d,rfl,ic,hd,_,hbi,_,hd1,hd2_⟩:=HI0.out.pick2 hlt;have hgd:ix.getD k 0=d:=zeD hd
   by_cases h0:0<=d
   ·obtain⟨n,rfl⟩:∃n:Nat,d=(n:Int):=⟨d.toNat,Ya⟩
    have hnx:=HIx.out k n hlt hgd;obtain⟨bw,ow,u,un,ud,ucn,ucd,rfl,hbw,hu,wc0,wc1,wc2,hwv⟩:=HW.out.pick (k:=k) Yl;obtain⟨bx,ox,y,yn,yd,ycn,ycd,rfl,hbx,hyy,yc0,yc1,yc2,hyv⟩:=HX.out.pick (k:=n) Yl;obtain⟨hu1,hu2⟩:=za5 hu;obtain⟨hy1,hy2⟩:=za5 hyy;obtain⟨s,hs⟩:∃s,s=zc (zgc b ws 0 ix x k):=⟨_,rfl⟩
    obtain⟨s1,hs1⟩:∃s1,s1=zc (zgc b ws 0 ix x (k+1)):=⟨_,rfl⟩
    obtain⟨pr,hpr⟩:∃pr,pr=zc (zT u*zT y):=⟨_,rfl⟩
    have hq:zc (zT s+zT pr)=s1:=by
     rw[hs,hpr,hs1,zH,zH,zoa hgd,hu1,hy1,ZR]
    have hmem:ws.getD k 0∈ws:=Ea;have hmex:x.getD n 0∈x:=Ea;obtain⟨sn,sd,scn,scd,hbxs,s2,s3,s4,s5⟩:=(show zem wr w.heap.size s from KG).ex;have HMul:Hid (∀W,Below wr.heap.size wr W->Calls Tryz.prog 80 #[.agg #[.bool u.neg,.slice un u.num.length ucn,.slice ud u.den.length ucd],.agg #[.bool y.neg,.slice yn y.num.length ycn,.slice yd y.den.length ycd]] W (zcj W pr)):=fun W hb=>by
     rw[hpr];have hbw2:=HI.out.bl.trans (hb.mono HI.out.bl.size);exact zpY (hwv.below hbw2) (hyv.below hbw2) (by rw[hu2];exact Hw1.out _ hmem) (by rw[hy2];exact Hx1.out _ hmex)
    have HAdd:Hid (∀W,Below wr.heap.size wr W->∀v,RatV W v pr->Calls Tryz.prog 78 #[.agg #[.bool s.neg,.slice sn s.num.length scn,.slice sd s.den.length scd],v] W (zcj W s1)):=fun W hb v hv=>by
     have h:=zke (x:=s) ⟨sn,sd,scn,scd,rfl,s2,s3,s4.below hb,s5.below hb⟩ hv (by rw[hs];exact Hs.out k Ya) (by rw[hpr,hu1,hy1];exact Hp.out _ hmem _ hmex);rw[hq]at h;exact h
    have HCe:Hid (∀W,Below wr.heap.size wr W->W.cell? ⟨w.heap.size,0,none⟩=some (.bool s.neg)/\W.cell? ⟨w.heap.size,1,none⟩=some (.slice sn s.num.length scn)/\W.cell? ⟨w.heap.size,2,none⟩=some (.slice sd s.den.length scd)/\
      W.cell? ⟨bw,ow+k*3,none⟩=some (.bool u.neg)/\W.cell? ⟨bw,ow+k*3+1,none⟩=some (.slice un u.num.length ucn)/\W.cell? ⟨bw,ow+k*3+2,none⟩=some (.slice ud u.den.length ucd)/\W.cell? ⟨bi,oi+k,none⟩=some (.int .i64 (n:Int))/\
      W.cell? ⟨bx,ox+n*3,none⟩=some (.bool y.neg)/\W.cell? ⟨bx,ox+n*3+1,none⟩=some (.slice yn y.num.length ycn)/\W.cell? ⟨bx,ox+n*3+2,none⟩=some (.slice yd y.den.length ycd)):=fun W hb=>by
     have hbw2:=HI.out.bl.trans (hb.mono HI.out.bl.size);exact⟨(hb.cell hbxs.lt).trans hbxs.c0,(hb.cell hbxs.lt).trans hbxs.c1,(hb.cell hbxs.lt).trans hbxs.c2,(hbw2.cell hbw).trans wc0,(hbw2.cell hbw).trans wc1,(hbw2.cell hbw).trans wc2,(hbw2.cell hbi).trans ic,(hbw2.cell hbx).trans yc0,(hbw2.cell hbx).trans yc1,(hbw2.cell hbx).trans yc2⟩
    have HS1:Hid (zc (zgc b ws 0 ix x (k+1))=s1):=hs1.symm;have ic0:=(HI.out.bl.cell (p:=⟨bi,oi+k,none⟩) hbi).trans ic;have hkw:k<ws.length:=Ya;have q0:decide ((0:Int)<=(n:Int))=true:=Zk Ya;clear hd hgd hu hyy hu1 hu2 hy1 hy2 hs hs1 hpr hq hmem hmex hbxs s4 s5 hwv hyv wc0 wc1 wc2 yc0 yc1 yc2 ic
    go_upto_region 5 with fail
    clear ic0
    refine zj 14 Yb Yb Yb Yb Yd (zbZ wr.heap.size wr) (fun w w'=>Below w.heap.size w w') (GR [.val (.agg #[.bool s.neg,.slice sn s.num.length scn,.slice sd s.den.length scd]),.val (.slice (some ⟨bw,ow,none⟩) ws.length cw),.val (.int .i64 (k:Int)),.val (.pointer (some ⟨bw,ow+k*3,none⟩)),.val (.agg #[.bool u.neg,.slice un u.num.length ucn,.slice ud u.den.length ucd]),.val (.slice (some ⟨bx,ox,none⟩) x.length cx),.val (.slice (some ⟨bi,oi,none⟩) ix.length ci),.val (.int .i64 (k:Int)),.val (.pointer (some ⟨bi,oi+k,none⟩)),.val (.int .i64 (n:Int)),.val (.pointer (some ⟨bx,ox+n*3,none⟩)),.val (.agg #[.bool y.neg,.slice yn y.num.length ycn,.slice yd y.den.length ycd]),.rat pr,.rat s1]) (fun i v w w' h hb=>zcY h hb) (zbZ.start (Za _)) ?_ ?_
    ·intro ops;simp only[Zo,Zw,zbR]
     refine⟨?v0,?v1,?v2,?v3,?v4,?v5,?v6,?v7,?v8,?v9,?v10,?v11,?_,?_,trivial⟩
     all_goals (intro g W hR hL;have hB:=hR.base;obtain⟨x0,x1,x2,wc0,wc1,wc2,ic0,yc0,yc1,yc2⟩:=HCe.out W hR.be;simp only[zdt,Region.binds,ZB,Zn,Zx,GR,Zf,Zc]at hL;simp[ze,Act.put])
     case v0|v1|v2|v3|v4|v5|v6|v7|v8|v9|v10|v11=>
      exact Ut
     ·try simp only[hL]
      clear hL;have HR:=hid hR;clear hR;have HCt:=hid (HMul.out W HR.out.be);exact Um
     ·generalize g 0=y0 at hL⊢;generalize g 12=y12 at hL⊢;obtain⟨rfl,H12,_,_⟩:=hL;obtain⟨K12,HR⟩:=hd2 H12 hR;clear hR H12;have HCt:=hid (HAdd.out W HR.out.be _ K12.out);exact Um
    ·intro ops g W hR hL;have hB:=hR.base;have J13:=hL.2;simp only[GR,Zf,Zc]at J13;obtain⟨x0,x1,x2,wc0,wc1,wc2,ic0,yc0,yc1,yc2⟩:=HCe.out W hR.be;clear hL;simp only[Zo,Zw,ZG,ZO];simp[ze,Act.put];generalize g 13=y13 at J13⊢;have HR:=hid hR;clear hR;obtain⟨bn',bd',dn',dd',rfl,g2,g3,g4,g5⟩:=J13.ex;have HBe:=hid (show Below wr.heap.size wr W from HR.out.be);have HBx:=hid (HI.out.box.below HBe.out);obtain⟨_,_,_,_,⟨_,_,_,zf,zlt⟩,_⟩:=HBx.out.ex;have HStep:=hid (HI.out.step HBe.out (k':=k+1) HS1.out g2 g3 g4 g5);clear g4 g5 J13;exact Ie
   ·have hsk:zgc b ws 0 ix x (k+1)=zgc b ws 0 ix x k:=zn5 (by rw[hgd];exact h0);have ic0:=(HI.out.bl.cell (p:=⟨bi,oi+k,none⟩) hbi).trans ic;have HStep:Hid (SmI w wr b ws ix x (k+1)):=⟨by rw[hsk];exact HI.out.box,HI.out.res,HI.out.bl⟩
    have q0:decide (0<=d)=false:=Zj h0;clear hd hgd hsk ic;exact Ie
  ·obtain rfl:k=ix.length:=Ya;have hbx:zem wr w.heap.size RR:=by rw[HEnd.out];exact HI.out.box
   obtain⟨sn,sd,scn,scd,⟨x0,x1,x2,_,xlt⟩,s2,s3,s4,s5⟩:=hbx.ex;obtain⟨hS,hV⟩:=HI.out.res.put s2 s3 s4 s5;obtain⟨HS,HV,HBl⟩:=hd3 hS hV (zu HI.out.bl (Zaj _) (.bool RR.neg) (.slice sn RR.num.length scn) (.slice sd RR.den.length scd));obtain⟨y0,y1,y2,yf,ylt⟩:=HI.out.res.c;clear hbx hS hV s4 s5;go_wp2;obtain⟨z0,z1,z2,zf,zlt⟩:=HS.out;have hNP:zcj w RR (.returned (.agg #[.bool RR.neg,.slice sn RR.num.length scn,.slice sd RR.den.length scd])) (((wr.setCell ⟨w.heap.size+1,0,none⟩ (.bool RR.neg)).setCell ⟨w.heap.size+1,1,none⟩ (.slice sn RR.num.length scn)).setCell ⟨w.heap.size+1,2,none⟩ (.slice sd RR.den.length scd)):=⟨_,rfl,HV.out,HBl.out⟩
   generalize((wr.setCell ⟨w.heap.size+1,0,none⟩ (.bool RR.neg)).setCell ⟨w.heap.size+1,1,none⟩ (.slice sn RR.num.length scn)).setCell ⟨w.heap.size+1,2,none⟩ (.slice sd RR.den.length scd)=Y at *;exact Zp (v:=.agg #[.bool RR.neg,.slice sn RR.num.length scn,.slice sd RR.den.length scd]) (by simp[results,Tryz.results101,go_sem,z0,z1,z2]) rfl hNP
theorem zqh(p q:Rat):(decide (0<=zqd p q)=true/\zc7 p q=p)∨(decide (0<=zqd p q)=false/\zc7 p q=q):=by
 by_cases h:p<q
 ·right
  refine⟨?_,?_⟩
  ·apply Zj
   unfold zqd;rw[Zm h];decide
  ·unfold zc7;rw[Zg (Rat.not_le.2 h)]
 ·left
  refine⟨?_,?_⟩
  ·apply Zk
   unfold zqd;rw[Zg h];split<;>decide
  ·unfold zc7;rw[Zm (Rat.not_lt.1 h)]
theorem zrB{w:World}{v u:Value}{x y:zaf}(hv:RatV w v x)(hu:RatV w u y)(hx:zD x 524286)(hy:zD y 524285):
  Calls Tryz.prog 23 #[v,u] w (zcj w (zc (zc7 (zT x) (zT y)))):=by
 obtain⟨HV,HU⟩:=hd2 hv hu;obtain⟨an,ad,cn,cd,rfl,a2,a3,a4,a5⟩:=hv.ex;obtain⟨bn,bd,dn,dd,rfl,b2,b3,b4,b5⟩:=hu.ex;obtain⟨HLx,HLy,HM⟩:=hd3 (hx.mono (show 524286<=1048576 from Ya)) (hy.mono (show 524285<=1048576 from Ya)) (zqh (zT x) (zT y));have hCx:Hid (zaF x=zc (zT x)):=za0 x;have hCy:Hid (zaF y=zc (zT y)):=za0 y;generalize zc7 (zT x) (zT y)=M at *;clear hv hu a4 a5 b4 b5
 go_enter Tryz.func23,Tryz.ntmps23
 go_wp2_with fail
 have hF:=zkJ.mk' w (.bool x.neg) (.slice an x.num.length cn) (.slice ad x.den.length cd) (.bool y.neg) (.slice bn y.num.length dn) (.slice bd y.den.length dd) 51;generalize((w.alloc (zbb x an cn ad cd 51)).alloc (zbb y bn dn bd dd 51)).alloc (zc9 51)=W at *;obtain⟨HF,HVW,HUW⟩:=hd3 hF (HV.out.below hF.bl) (HU.out.below hF.bl);have HC:=hid (ztf HVW.out HUW.out hx hy);generalize zqd (zT x) (zT y)=cc at *;clear hF HV HU hx hy
 refine HC.out.mono ?_
 rintro e w1 ⟨rfl,hb1⟩;obtain⟨HF1,HV1,HU1⟩:=hd3 (HF.out.below hb1) (HVW.out.below hb1) (HUW.out.below hb1);clear hb1 HF HVW HUW HC
 rcases HM.out with⟨q1,e1⟩|⟨q1,e1⟩
 ·have hK:=zeJ HV1.out HLx.out;rw[hCx.out,<- e1]at hK;have HK:=hid hK;obtain⟨x0,x1,x2,_,xlt⟩:=HF1.out.a;exact UX
 ·have hK:=zeJ HU1.out HLy.out;rw[hCy.out,<- e1]at hK;have HK:=hid hK;obtain⟨x0,x1,x2,_,xlt⟩:=HF1.out.b;exact UX
def ztl(w:World)(x:zaf)(e:Ending)(w':World):Prop:=∃v,e=.returned (.tuple #[v,.int .i64 0])/\RatV w' v x/\Below w.heap.size w w'
structure PoI (w wr:World) (q:Rat):Prop where
 box:zem wr (w.heap.size+1) (zc q)
 res:zjR wr w.heap.size
 bl:Below w.heap.size w wr
theorem PoI.step{w wr W:World}{q q':Rat}{y:zaf}{bn bd:Option Addr}{dn dd:Nat}(h:PoI w wr q)(hb:Below wr.heap.size wr W)(hy:zc q'=y)
 (g2:y.num.length<=dn)(g3:y.den.length<=dd)(g4:zw W bn y.num)(g5:zw W bd y.den):
  PoI w (((W.setCell ⟨w.heap.size+1,0,none⟩ (.bool y.neg)).setCell ⟨w.heap.size+1,1,none⟩ (.slice bn y.num.length dn)).setCell ⟨w.heap.size+1,2,none⟩ (.slice bd y.den.length dd)) q':=by
 refine⟨?_,(h.res.below hb).far3 Ya _ _ _,zu (h.bl.trans (hb.mono h.bl.size)) (Zaj _) _ _ _⟩
 rw[hy];exact(h.box.below hb).store g2 g3 g4 g5
structure PdJ (w wr:World) (S A:Value) (m:Nat) (nR RR:zaf) (q:Rat) (d:Nat->Bool) (g:Nat->Value) (W:World):Prop where
 bl:d 8=false->Below wr.heap.size wr W
 v0:d 0=true->g 0=S
 v1:d 1=true->g 1=A
 v2:d 2=true->g 2=.int .i64 (m:Int)
 v3:d 3=true->d 4=false->RatV W (g 3) nR
 v4:d 4=true->∃u,g 4=.tuple #[u,.int .i64 0]/\(d 8=false->RatV W u RR)/\(d 5=true->g 5=.tuple #[u,.int .i64 0])/\(d 6=true->g 6=u)
 e4:d 4=true->d 0=true/\d 3=true
 e5:d 5=true->d 4=true
 e6:d 6=true->d 5=true
 e8:d 8=true->d 6=true
 fin:d 8=true->PoI w W q
section
variable {w wr W:World} {S A:Value} {m:Nat} {nR RR:zaf} {q:Rat} {d:Nat->Bool} {g:Nat->Value}
theorem PdJ.n8(h:PdJ w wr S A m nR RR q d g W)(h6:d 6=false):d 8=false:=by
 cases h8:d 8 with
 | false=>rfl
 | true=>exact absurd ((h.e8 h8).symm.trans h6) Yd
theorem PdJ.n6(h:PdJ w wr S A m nR RR q d g W)(h5:d 5=false):d 6=false:=by
 cases h8:d 6 with
 | false=>rfl
 | true=>exact absurd ((h.e6 h8).symm.trans h5) Yd
theorem PdJ.n5(h:PdJ w wr S A m nR RR q d g W)(h4:d 4=false):d 5=false:=by
 cases h8:d 5 with
 | false=>rfl
 | true=>exact absurd ((h.e5 h8).symm.trans h4) Yd
theorem PdJ.n4(h:PdJ w wr S A m nR RR q d g W)(h3:d 3=false∨d 0=false):d 4=false:=by
 cases h8:d 4 with
 | false=>rfl
 | true=>exact h3.elim (fun h3=>absurd ((h.e4 h8).2.symm.trans h3) Yd) (fun h3=>absurd ((h.e4 h8).1.symm.trans h3) Yd)
theorem PdJ.start(hb:Below wr.heap.size wr W)(g:Nat->Value):PdJ w wr S A m nR RR q (fun _=>false) g W:=
 ⟨fun _=>hb,fun h=>absurd h Yd,fun h=>absurd h Yd,fun h=>absurd h Yd,fun h=>absurd h Yd,fun h=>absurd h Yd,fun h=>absurd h Yd,fun h=>absurd h Yd,fun h=>absurd h Yd,fun h=>absurd h Yd,fun h=>absurd h Yd⟩
theorem PdJ.grow{W':World}(h:PdJ w wr S A m nR RR q d g W)(h8:d 8=false)(hb:Below W.heap.size W W'):PdJ w wr S A m nR RR q d g W':=
 ⟨fun k=>(h.bl k).trans (hb.mono (h.bl k).size),h.v0,h.v1,h.v2,fun k1 k2=>(h.v3 k1 k2).below hb,fun k=>let ⟨u,q1,q2,q3⟩:=h.v4 k;⟨u,q1,fun k8=>(q2 k8).below hb,q3⟩,h.e4,h.e5,h.e6,h.e8,fun k=>absurd (k.symm.trans h8) Yd⟩
theorem PdJ.s0(h:PdJ w wr S A m nR RR q d g W):PdJ w wr S A m nR RR q (zdj d 0) (upd g 0 S) W:=⟨h.bl,fun _=>rfl,h.v1,h.v2,h.v3,h.v4,fun k=>⟨rfl,(h.e4 k).2⟩,h.e5,h.e6,h.e8,h.fin⟩
theorem PdJ.s1(h:PdJ w wr S A m nR RR q d g W):PdJ w wr S A m nR RR q (zdj d 1) (upd g 1 A) W:=⟨h.bl,h.v0,fun _=>rfl,h.v2,h.v3,h.v4,h.e4,h.e5,h.e6,h.e8,h.fin⟩
theorem PdJ.s2(h:PdJ w wr S A m nR RR q d g W):PdJ w wr S A m nR RR q (zdj d 2) (upd g 2 (.int .i64 (m:Int))) W:=⟨h.bl,h.v0,h.v1,fun _=>rfl,h.v3,h.v4,h.e4,h.e5,h.e6,h.e8,h.fin⟩
theorem PdJ.s3{v:Value}(h:PdJ w wr S A m nR RR q d g W)(hv:RatV W v nR):PdJ w wr S A m nR RR q (zdj d 3) (upd g 3 v) W:=⟨h.bl,h.v0,h.v1,h.v2,fun _ _=>hv,h.v4,fun k=>⟨(h.e4 k).1,rfl⟩,h.e5,h.e6,h.e8,h.fin⟩
theorem PdJ.s4{u:Value}(h:PdJ w wr S A m nR RR q d g W)(h4:d 4=false)(h0:d 0=true)(h3:d 3=true)(hv:RatV W u RR):PdJ w wr S A m nR RR q (zdj d 4) (upd g 4 (.tuple #[u,.int .i64 0])) W:=
 have h5:=h.n5 h4
 ⟨h.bl,h.v0,h.v1,h.v2,fun _ k=>Bool.noConfusion (show true=false from k),fun _=>⟨u,rfl,fun _=>hv,fun k=>absurd (k.symm.trans h5) Yd,fun k=>absurd (k.symm.trans (h.n6 h5)) Yd⟩,fun _=>⟨h0,h3⟩,fun _=>rfl,h.e6,h.e8,h.fin⟩
theorem PdJ.s5(h:PdJ w wr S A m nR RR q d g W)(h4:d 4=true):PdJ w wr S A m nR RR q (zdj d 5) (upd g 5 (g 4)) W:=
 ⟨h.bl,h.v0,h.v1,h.v2,h.v3,fun k=>let ⟨u,q1,q2,q3,q4⟩:=h.v4 k;⟨u,q1,q2,fun _=>q1,q4⟩,h.e4,fun _=>h4,fun _=>rfl,h.e8,h.fin⟩
theorem PdJ.s6{u:Value}(h:PdJ w wr S A m nR RR q d g W)(h5:d 5=true)(hu:g 4=.tuple #[u,.int .i64 0]):PdJ w wr S A m nR RR q (zdj d 6) (upd g 6 u) W:=
 ⟨h.bl,h.v0,h.v1,h.v2,h.v3,fun k=>let ⟨u',q1,q2,q3,q4⟩:=h.v4 k;⟨u',q1,q2,q3,fun _=>by
  have e:=hu.symm.trans q1;simp only[Value.tuple.injEq]at e;have:=congrArg (fun a=>a[0]?) e
  simpa [upd]using this⟩,h.e4,h.e5,fun _=>h5,fun _=>rfl,h.fin⟩
theorem PdJ.s7{v:Value}(h:PdJ w wr S A m nR RR q d g W):PdJ w wr S A m nR RR q (zdj d 7) (upd g 7 v) W:=⟨h.bl,h.v0,h.v1,h.v2,h.v3,h.v4,h.e4,h.e5,h.e6,h.e8,h.fin⟩
theorem PdJ.s8{v:Value}{W':World}(h:PdJ w wr S A m nR RR q d g W)(h6:d 6=true)(hf:PoI w W' q):PdJ w wr S A m nR RR q (zdj d 8) (upd g 8 v) W':=
 have h4:=h.e5 (h.e6 h6)
 ⟨fun k=>Bool.noConfusion (show true=false from k),h.v0,h.v1,h.v2,fun _ k=>absurd (h4.symm.trans k) Yd,fun k=>let ⟨u,q1,q2,q3⟩:=h.v4 k;⟨u,q1,fun k8=>Bool.noConfusion (show true=false from k8),q3⟩,h.e4,h.e5,h.e6,fun _=>h6,fun _=>hf⟩
end
theorem zpp{w:World}{ai ax:Option Addr}{ix:List Int}{x:List Rat}{F:Nat->Prop}(ci cx:Nat)(hI:zah w F ai ix)(hX:zm w ax (x.map zc))(h1:1<=ix.length)(hb:∀i∈ix,0<=i/\i<x.length)
 (hx1:∀q∈x,zD (zc q) 524285)(hs:∀k,k<ix.length->zD (zc (zhk (zau ix x) k)) 524286):
  Calls Tryz.prog 102 #[.int .i64 3,.slice ai ix.length ci,.slice ax x.length cx] w (zcj w (zc (zdV (zau ix x)))):=by
 have hxl:=hX.len;have hil:=hI.len;simp only[Zv]at hxl;obtain⟨HI0,HX,Hx1,Hs⟩:=hd4 hI hX hx1 hs;have HIx:Hid (∀k,k<ix.length->∃n:Nat,ix[k]? =some (n:Int)/\n<x.length):=fun k hk=>by
  exact EX
 have HEnd:Hid (zaf.mk (zc (zdV (zau ix x))).neg (zc (zdV (zau ix x))).num (zc (zdV (zau ix x))).den=zc (zdV (zau ix x))):=rfl;have hRR:∃RR,RR=zc (zdV (zau ix x)):=⟨_,rfl⟩
 clear HEnd;obtain⟨RR,hRR⟩:=hRR;rw[<- hRR];have HEnd:=hid hRR;clear hI hX hx1 hs hb hRR
 go_enter Tryz.func102,Tryz.ntmps102
 go_upto_region 1 with fail
 have hst:=fun(W:World) (o:Obj)=>(Ze W.heap.size W).alloc (Za _) o
 obtain⟨HN,HB0⟩:=hd2 (zjR.alloc w 51) (hst w (zc9 51));have hsz0:(w.alloc (zc9 51)).heap.size=w.heap.size+1:=Yc;generalize w.alloc (zc9 51)=W1 at *;obtain⟨n,hn,hnx⟩:=HIx.out 0 Ya;obtain⟨bi,oi,d,hae,ic,hd,_,hbi,_,hd1,hd2_⟩:=HI0.out.pick2 (k:=0) Ya;rw[hn]at hd;cases hd;obtain⟨bx,ox,y,yn,yd,ycn,ycd,hxe,hbx,hyy,yc0,yc1,yc2,hyv⟩:=HX.out.pick (k:=n) Yl;obtain⟨hy1,hy2⟩:=za5 hyy;have hv0:(zau ix x).getD 0 0=x.getD n 0:=zgj Ya (zeD hn);obtain⟨_,_,_,_,hye,y2,y3,y4,y5⟩:=hyv.ex;cases hye;have HBxE:=hid (zem.alloc y2 y3 (y4.below HB0.out) (y5.below HB0.out) 51);have hP0:PoI w (W1.alloc (zbb y yn ycn yd ycd 51)) (zhk (zau ix x) 0):=by
  refine⟨?_,HN.out.below (hst _ _),HB0.out.trans ((hst W1 _).mono HB0.out.size)⟩
  have h:=HBxE.out;rw[hsz0]at h;rw[show zhk (zau ix x) 0=(zau ix x).getD 0 0 from rfl,hv0,<- hy2];exact h
 have HP0:=hid hP0;have e0:=(HB0.out.cell (p:=⟨bi,oi+0,none⟩) hbi).trans ic;have e1:=(HB0.out.cell (p:=⟨bx,ox+n*3,none⟩) hbx).trans yc0;have e2:=(HB0.out.cell (p:=⟨bx,ox+n*3+1,none⟩) hbx).trans yc1;have e3:=(HB0.out.cell (p:=⟨bx,ox+n*3+2,none⟩) hbx).trans yc2;rw[ZU]at e0;obtain⟨HAe,HXe⟩:=hd2 hae hxe;have hpos:0<ix.length:=Ya;rw[HAe.out,HXe.out];clear hn hyy hy1 hy2 hv0 y4 y5 hyv hst HBxE hP0 ic yc0 yc1 yc2 hae hxe hbi hbx hd1 hd2_
 go_upto_region 2 with fail
 rw[<- HAe.out,<- HXe.out];clear e0 e1 e2 e3;generalize W1.alloc (zbb y yn ycn yd ycd 51)=W2 at *;clear hsz0 HN HB0 HAe HXe;go_wp2
 go_loopw [8] (fun i wr=>∃k:Nat,1<=k/\k<=ix.length/\i=.int .i64 (k:Int)/\Hid (PoI w wr (zhk (zau ix x) (k-1)))) (fun i _=>ix.length-(intOf i).toNat)
 case atStart=>exact⟨1,Za _,h1,rfl,HP0.out⟩
 case round=>
  obtain⟨k,hk1,hk,rfl,HI⟩:=hrel
  by_cases hlt:k<ix.length
  ·obtain⟨n,hn,hnx⟩:=HIx.out k hlt;obtain⟨bi,oi,d,rfl,ic,hd,_,hbi,_,hd1,hd2_⟩:=HI0.out.pick2 hlt;rw[hn]at hd;cases hd;obtain⟨bx,ox,y,yn,yd,ycn,ycd,rfl,hbx,hyy,yc0,yc1,yc2,hyv⟩:=HX.out.pick (k:=n) Yl;obtain⟨hy1,hy2⟩:=za5 hyy;have hvk:(zau ix x).getD k 0=x.getD n 0:=zgj hlt (zeD hn);obtain⟨s,hs⟩:∃s,s=zc (zhk (zau ix x) (k-1)):=⟨_,rfl⟩
   obtain⟨s1,hs1⟩:∃s1,s1=zc (zhk (zau ix x) k):=⟨_,rfl⟩
   have hq:zc (zc7 (zT s) (zT y))=s1:=Iv;have hmex:x.getD n 0∈x:=Ea;obtain⟨sn,sd,scn,scd,hbxs,s2,s3,s4,s5⟩:=(show zem wr (w.heap.size+1) s from KG).ex;have HCl:Hid (∀W,Below wr.heap.size wr W->Calls Tryz.prog 23 #[.agg #[.bool s.neg,.slice sn s.num.length scn,.slice sd s.den.length scd],.agg #[.bool y.neg,.slice yn y.num.length ycn,.slice yd y.den.length ycd]] W (zcj W s1)):=fun W hb=>by
    have hbw2:=HI.out.bl.trans (hb.mono HI.out.bl.size);have h:=zrB (x:=s) (y:=y) ⟨sn,sd,scn,scd,rfl,s2,s3,s4.below hb,s5.below hb⟩ (hyv.below hbw2) JE KI;rw[hq]at h;exact h
   have HCe:Hid (∀W,Below wr.heap.size wr W->W.cell? ⟨w.heap.size+1,0,none⟩=some (.bool s.neg)/\W.cell? ⟨w.heap.size+1,1,none⟩=some (.slice sn s.num.length scn)/\W.cell? ⟨w.heap.size+1,2,none⟩=some (.slice sd s.den.length scd)/\
     W.cell? ⟨bi,oi+k,none⟩=some (.int .i64 (n:Int))/\
     W.cell? ⟨bx,ox+n*3,none⟩=some (.bool y.neg)/\W.cell? ⟨bx,ox+n*3+1,none⟩=some (.slice yn y.num.length ycn)/\W.cell? ⟨bx,ox+n*3+2,none⟩=some (.slice yd y.den.length ycd)):=fun W hb=>by
    have hbw2:=HI.out.bl.trans (hb.mono HI.out.bl.size);exact⟨(hb.cell hbxs.lt).trans hbxs.c0,(hb.cell hbxs.lt).trans hbxs.c1,(hb.cell hbxs.lt).trans hbxs.c2,(hbw2.cell hbi).trans ic,(hbw2.cell hbx).trans yc0,(hbw2.cell hbx).trans yc1,(hbw2.cell hbx).trans yc2⟩
   have HS1:Hid (zc (zhk (zau ix x) k)=s1):=hs1.symm;clear hn hyy hy1 hy2 hs hs1 hq hmex hbxs s4 s5 hyv yc0 yc1 yc2 ic hvk
   go_upto_region 6 with fail
   refine zj 9 Yb Yb Yb Yb Yd (zbZ wr.heap.size wr) (fun w w'=>Below w.heap.size w w') (GR [.val (.agg #[.bool s.neg,.slice sn s.num.length scn,.slice sd s.den.length scd]),.val (.slice (some ⟨bx,ox,none⟩) x.length cx),.val (.slice (some ⟨bi,oi,none⟩) ix.length ci),.val (.int .i64 (k:Int)),.val (.pointer (some ⟨bi,oi+k,none⟩)),.val (.int .i64 (n:Int)),.val (.pointer (some ⟨bx,ox+n*3,none⟩)),.val (.agg #[.bool y.neg,.slice yn y.num.length ycn,.slice yd y.den.length ycd]),.rat s1]) (fun i v w w' h hb=>zcY h hb) (zbZ.start (Za _)) ?_ ?_
   ·exact Ob
   ·intro ops g W hR hL;have hB:=hR.base;have J8:=hL.2;simp only[GR,Zf,Zc]at J8;obtain⟨x0,x1,x2,ic0,yc0,yc1,yc2⟩:=HCe.out W hR.be;clear hL;simp only[Zo,Zw,ZG,ZO];simp[ze,Act.put];generalize g 8=y8 at J8⊢;have HR:=hid hR;clear hR;obtain⟨bn',bd',dn',dd',rfl,g2,g3,g4,g5⟩:=J8.ex;have HBe:=hid (show Below wr.heap.size wr W from HR.out.be);have HBx:=hid (HI.out.box.below HBe.out);obtain⟨_,_,_,_,⟨_,_,_,zf,zlt⟩,_⟩:=HBx.out.ex;have HStep:=hid (HI.out.step HBe.out (q':=zhk (zau ix x) k) HS1.out g2 g3 g4 g5);exact EL
  ·obtain rfl:k=ix.length:=Ya;have HOut:Hid (∀Q,PoI w wr Q->zem wr (w.heap.size+1) (zc Q)):=fun Q h=>h.box
   have hbx:zem wr (w.heap.size+1) RR:=by rw[HEnd.out,zdV,zg7];exact HI.out.box
   obtain⟨sn,sd,scn,scd,⟨x0,x1,x2,_,xlt⟩,s2,s3,s4,s5⟩:=hbx.ex;obtain⟨hS,hV⟩:=HI.out.res.put s2 s3 s4 s5;obtain⟨HS,HV,HBl⟩:=hd3 hS hV (zu HI.out.bl (Za _) (.bool RR.neg) (.slice sn RR.num.length scn) (.slice sd RR.den.length scd));obtain⟨y0,y1,y2,yf,ylt⟩:=HI.out.res.c;clear hbx hS hV s4 s5;go_wp2;obtain⟨z0,z1,z2,zf,zlt⟩:=HS.out;have hNP:zcj w RR (.returned (.agg #[.bool RR.neg,.slice sn RR.num.length scn,.slice sd RR.den.length scd])) (((wr.setCell ⟨w.heap.size,0,none⟩ (.bool RR.neg)).setCell ⟨w.heap.size,1,none⟩ (.slice sn RR.num.length scn)).setCell ⟨w.heap.size,2,none⟩ (.slice sd RR.den.length scd)):=⟨_,rfl,HV.out,HBl.out⟩
   generalize((wr.setCell ⟨w.heap.size,0,none⟩ (.bool RR.neg)).setCell ⟨w.heap.size,1,none⟩ (.slice sn RR.num.length scn)).setCell ⟨w.heap.size,2,none⟩ (.slice sd RR.den.length scd)=Y at *;exact Zp (v:=.agg #[.bool RR.neg,.slice sn RR.num.length scn,.slice sd RR.den.length scd]) KN rfl hNP
theorem zpt{w:World}{ai ax:Option Addr}{ix:List Int}{x:List Rat}{F:Nat->Prop}(ci cx:Nat)(hI:zah w F ai ix)(hX:zm w ax (x.map zc))(h1:1<=ix.length)(hb:∀i∈ix,0<=i/\i<x.length)
 (hx1:∀q∈x,zD (zc q) 524285)(hs:∀k,k<ix.length->zD (zc (zjI (zau ix x) k)) 524286):
  Calls Tryz.prog 102 #[.int .i64 4,.slice ai ix.length ci,.slice ax x.length cx] w (zcj w (zc (zf0 (zau ix x)))):=by
 have hxl:=hX.len;have hil:=hI.len;simp only[Zv]at hxl;obtain⟨HI0,HX,Hx1,Hs⟩:=hd4 hI hX hx1 hs;have HIx:Hid (∀k,k<ix.length->∃n:Nat,ix[k]? =some (n:Int)/\n<x.length):=fun k hk=>by
  exact EX
 have HEnd:Hid (zaf.mk (zc (zf0 (zau ix x))).neg (zc (zf0 (zau ix x))).num (zc (zf0 (zau ix x))).den=zc (zf0 (zau ix x))):=rfl;have hRR:∃RR,RR=zc (zf0 (zau ix x)):=⟨_,rfl⟩
 clear HEnd;obtain⟨RR,hRR⟩:=hRR;rw[<- hRR];have HEnd:=hid hRR;clear hI hX hx1 hs hb hRR
 go_enter Tryz.func102,Tryz.ntmps102
 go_upto_region 1 with fail
 have hst:=fun(W:World) (o:Obj)=>(Ze W.heap.size W).alloc (Za _) o
 obtain⟨HN,HB0⟩:=hd2 (zjR.alloc w 51) (hst w (zc9 51));have hsz0:(w.alloc (zc9 51)).heap.size=w.heap.size+1:=Yc;generalize w.alloc (zc9 51)=W1 at *;obtain⟨n,hn,hnx⟩:=HIx.out 0 Ya;obtain⟨bi,oi,d,hae,ic,hd,_,hbi,_,hd1,hd2_⟩:=HI0.out.pick2 (k:=0) Ya;rw[hn]at hd;cases hd;obtain⟨bx,ox,y,yn,yd,ycn,ycd,hxe,hbx,hyy,yc0,yc1,yc2,hyv⟩:=HX.out.pick (k:=n) Yl;obtain⟨hy1,hy2⟩:=za5 hyy;have hv0:(zau ix x).getD 0 0=x.getD n 0:=zgj Ya (zeD hn);obtain⟨_,_,_,_,hye,y2,y3,y4,y5⟩:=hyv.ex;cases hye;have HBxE:=hid (zem.alloc y2 y3 (y4.below HB0.out) (y5.below HB0.out) 51);have hP0:PoI w (W1.alloc (zbb y yn ycn yd ycd 51)) (zjI (zau ix x) 0):=by
  refine⟨?_,HN.out.below (hst _ _),HB0.out.trans ((hst W1 _).mono HB0.out.size)⟩
  have h:=HBxE.out;rw[hsz0]at h;rw[show zjI (zau ix x) 0=(zau ix x).getD 0 0 from rfl,hv0,<- hy2];exact h
 have HP0:=hid hP0;have e0:=(HB0.out.cell (p:=⟨bi,oi+0,none⟩) hbi).trans ic;have e1:=(HB0.out.cell (p:=⟨bx,ox+n*3,none⟩) hbx).trans yc0;have e2:=(HB0.out.cell (p:=⟨bx,ox+n*3+1,none⟩) hbx).trans yc1;have e3:=(HB0.out.cell (p:=⟨bx,ox+n*3+2,none⟩) hbx).trans yc2;rw[ZU]at e0;obtain⟨HAe,HXe⟩:=hd2 hae hxe;have hpos:0<ix.length:=Ya;rw[HAe.out,HXe.out];clear hn hyy hy1 hy2 hv0 y4 y5 hyv hst HBxE hP0 ic yc0 yc1 yc2 hae hxe hbi hbx hd1 hd2_
 go_upto_region 2 with fail
 rw[<- HAe.out,<- HXe.out];clear e0 e1 e2 e3;generalize W1.alloc (zbb y yn ycn yd ycd 51)=W2 at *;clear hsz0 HN HB0 HAe HXe;go_wp2
 go_loopw [8] (fun i wr=>∃k:Nat,1<=k/\k<=ix.length/\i=.int .i64 (k:Int)/\Hid (PoI w wr (zjI (zau ix x) (k-1)))) (fun i _=>ix.length-(intOf i).toNat)
 case atStart=>exact⟨1,Za _,h1,rfl,HP0.out⟩
 case round=>
  obtain⟨k,hk1,hk,rfl,HI⟩:=hrel
  by_cases hlt:k<ix.length
  ·obtain⟨n,hn,hnx⟩:=HIx.out k hlt;obtain⟨bi,oi,d,rfl,ic,hd,_,hbi,_,hd1,hd2_⟩:=HI0.out.pick2 hlt;rw[hn]at hd;cases hd;obtain⟨bx,ox,y,yn,yd,ycn,ycd,rfl,hbx,hyy,yc0,yc1,yc2,hyv⟩:=HX.out.pick (k:=n) Yl;obtain⟨hy1,hy2⟩:=za5 hyy;have hvk:(zau ix x).getD k 0=x.getD n 0:=zgj hlt (zeD hn);obtain⟨s,hs⟩:∃s,s=zc (zjI (zau ix x) (k-1)):=⟨_,rfl⟩
   obtain⟨s1,hs1⟩:∃s1,s1=zc (zjI (zau ix x) k):=⟨_,rfl⟩
   have hq:zc (zT s+zT y)=s1:=Iv;have hmex:x.getD n 0∈x:=Ea;obtain⟨sn,sd,scn,scd,hbxs,s2,s3,s4,s5⟩:=(show zem wr (w.heap.size+1) s from KG).ex;have HCl:Hid (∀W,Below wr.heap.size wr W->Calls Tryz.prog 78 #[.agg #[.bool s.neg,.slice sn s.num.length scn,.slice sd s.den.length scd],.agg #[.bool y.neg,.slice yn y.num.length ycn,.slice yd y.den.length ycd]] W (zcj W s1)):=fun W hb=>by
    have hbw2:=HI.out.bl.trans (hb.mono HI.out.bl.size);have h:=zke (x:=s) (y:=y) ⟨sn,sd,scn,scd,rfl,s2,s3,s4.below hb,s5.below hb⟩ (hyv.below hbw2) JE KI;rw[hq]at h;exact h
   have HCe:Hid (∀W,Below wr.heap.size wr W->W.cell? ⟨w.heap.size+1,0,none⟩=some (.bool s.neg)/\W.cell? ⟨w.heap.size+1,1,none⟩=some (.slice sn s.num.length scn)/\W.cell? ⟨w.heap.size+1,2,none⟩=some (.slice sd s.den.length scd)/\
     W.cell? ⟨bi,oi+k,none⟩=some (.int .i64 (n:Int))/\
     W.cell? ⟨bx,ox+n*3,none⟩=some (.bool y.neg)/\W.cell? ⟨bx,ox+n*3+1,none⟩=some (.slice yn y.num.length ycn)/\W.cell? ⟨bx,ox+n*3+2,none⟩=some (.slice yd y.den.length ycd)):=fun W hb=>by
    have hbw2:=HI.out.bl.trans (hb.mono HI.out.bl.size);exact⟨(hb.cell hbxs.lt).trans hbxs.c0,(hb.cell hbxs.lt).trans hbxs.c1,(hb.cell hbxs.lt).trans hbxs.c2,(hbw2.cell hbi).trans ic,(hbw2.cell hbx).trans yc0,(hbw2.cell hbx).trans yc1,(hbw2.cell hbx).trans yc2⟩
   have HS1:Hid (zc (zjI (zau ix x) k)=s1):=hs1.symm;clear hn hyy hy1 hy2 hs hs1 hq hmex hbxs s4 s5 hyv yc0 yc1 yc2 ic hvk
   go_upto_region 7 with fail
   refine zj 9 Yb Yb Yb Yb Yd (zbZ wr.heap.size wr) (fun w w'=>Below w.heap.size w w') (GR [.val (.agg #[.bool s.neg,.slice sn s.num.length scn,.slice sd s.den.length scd]),.val (.slice (some ⟨bx,ox,none⟩) x.length cx),.val (.slice (some ⟨bi,oi,none⟩) ix.length ci),.val (.int .i64 (k:Int)),.val (.pointer (some ⟨bi,oi+k,none⟩)),.val (.int .i64 (n:Int)),.val (.pointer (some ⟨bx,ox+n*3,none⟩)),.val (.agg #[.bool y.neg,.slice yn y.num.length ycn,.slice yd y.den.length ycd]),.rat s1]) (fun i v w w' h hb=>zcY h hb) (zbZ.start (Za _)) ?_ ?_
   ·exact Ob
   ·intro ops g W hR hL;have hB:=hR.base;have J8:=hL.2;simp only[GR,Zf,Zc]at J8;obtain⟨x0,x1,x2,ic0,yc0,yc1,yc2⟩:=HCe.out W hR.be;clear hL;simp only[Zo,Zw,ZG,ZO];simp[ze,Act.put];generalize g 8=y8 at J8⊢;have HR:=hid hR;clear hR;obtain⟨bn',bd',dn',dd',rfl,g2,g3,g4,g5⟩:=J8.ex;have HBe:=hid (show Below wr.heap.size wr W from HR.out.be);have HBx:=hid (HI.out.box.below HBe.out);obtain⟨_,_,_,_,⟨_,_,_,zf,zlt⟩,_⟩:=HBx.out.ex;have HStep:=hid (HI.out.step HBe.out (q':=zjI (zau ix x) k) HS1.out g2 g3 g4 g5);exact EL
  ·obtain rfl:k=ix.length:=Ya;obtain⟨s,hs⟩:∃s,s=zc (zjI (zau ix x) (ix.length-1)):=⟨_,rfl⟩
   obtain⟨nR,hnR⟩:∃nR,nR=zc (((ix.length:Int):Rat)):=⟨_,rfl⟩
   have hne:zT nR≠0:=by
    rw[hnR,zH,<- Rat.intCast_zero];intro h;rw[Rat.intCast_inj]at h;omega
   have hq:zc (zT s/zT nR)=RR:=by
    rw[hs,hnR,zH,zH,HEnd.out,zf0,zg7]
   have hnl:zD nR 1048575:=by
    rw[hnR,zgh];exact⟨Zi (zbx (by rw[Int.natAbs_natCast];omega)) Ya,Yc⟩
   obtain⟨sn,sd,scn,scd,hbxs,s2,s3,s4,s5⟩:=(show zem wr (w.heap.size+1) s from KG).ex;have HOf:Hid (∀W,Calls Tryz.prog 27 #[.int .i64 (ix.length:Int)] W (zcj W nR)):=fun W=>by rw[hnR];exact zsV W _ Ya Ya
   have HDv:Hid (∀W,Below wr.heap.size wr W->∀v,RatV W v nR->Calls Tryz.prog 140 #[.agg #[.bool s.neg,.slice sn s.num.length scn,.slice sd s.den.length scd],v] W (ztl W RR)):=fun W hb v hv=>by
    have h:=zte (x:=s) (y:=nR) ⟨sn,sd,scn,scd,rfl,s2,s3,s4.below hb,s5.below hb⟩ hv (by rw[hs];exact(Hs.out (ix.length-1) Ya).mono Ya) hnl hne;rw[hq]at h;exact h
   have HCe:Hid (∀W,Below wr.heap.size wr W->W.cell? ⟨w.heap.size+1,0,none⟩=some (.bool s.neg)/\W.cell? ⟨w.heap.size+1,1,none⟩=some (.slice sn s.num.length scn)/\W.cell? ⟨w.heap.size+1,2,none⟩=some (.slice sd s.den.length scd)):=fun W hb=>
    ⟨(hb.cell hbxs.lt).trans hbxs.c0,(hb.cell hbxs.lt).trans hbxs.c1,(hb.cell hbxs.lt).trans hbxs.c2⟩
   clear hs hnR hne hq hnl hbxs s4 s5
   go_upto_if 42 with fail
   go_cut [8] (fun s8 wx=>PoI w wx (zf0 (zau ix x)))
   case first=>
    go_upto_region 9 with fail
    refine zcN Yb Yb Yb (PdJ w wr (.agg #[.bool s.neg,.slice sn s.num.length scn,.slice sd s.den.length scd]) (.slice ai ix.length ci) ix.length nR RR (zf0 (zau ix x))) (fun g=>PdJ.start (Ze _ _).drew g) ?_ ?_
    ·intro ops;simp only[zc1]
     refine⟨?_,?_,?_,?_,?_,?_,?_,?_,?_,trivial⟩
     all_goals (intro d g wc hJ hd hW;simp only[zaE,Region.binds,ZB,Zn,Zx,Z0,Z6]at hW;simp[ze,Act.put];have HJ:=hid hJ)
     ·have h8:=hJ.n8 (hJ.n6 (hJ.n5 (hJ.n4 (.inr hd))));obtain⟨x0,x1,x2⟩:=HCe.out wc (hJ.bl h8);clear hJ;go_wp2;exact⟨_,rfl,HJ.out.s0⟩
     ·clear hJ;go_wp2;exact⟨_,rfl,HJ.out.s1⟩
     ·generalize hg1:g 1=y1;obtain rfl:=hg1.symm.trans (hJ.v1 hW);clear hJ;go_wp2;exact⟨_,rfl,HJ.out.s2⟩
     ·have h8:=hJ.n8 (hJ.n6 (hJ.n5 (hJ.n4 (.inl hd))));generalize hg2:g 2=y2;obtain rfl:=hg2.symm.trans (hJ.v2 hW);have H8:=hid h8;clear hJ h8 hd
      go_wp2_with fail
      refine(HOf.out _).mono ?_
      rintro e w3 ⟨v3,rfl,k3,hb3⟩;have HJ1:=hid ((HJ.out.grow H8.out hb3).s3 k3);clear k3 hb3 HJ;go_wp2;exact⟨_,rfl,HJ1.out⟩
     ·have h8:=hJ.n8 (hJ.n6 (hJ.n5 hd));obtain⟨HT,HD4,HW0,HW3⟩:=hd4 (hJ.v3 hW.2.1 hd) hd hW.1 hW.2.1;generalize hg0:g 0=y0;obtain rfl:=hg0.symm.trans (hJ.v0 hW.1);obtain⟨HC,H8⟩:=hd2 (HDv.out wc (hJ.bl h8) _ HT.out) h8;clear hJ hd h8 hW
      go_wp2_with fail
      refine HC.out.mono ?_
      rintro e w3 ⟨v3,rfl,k3,hb3⟩;have HJ1:=hid ((HJ.out.grow H8.out hb3).s4 HD4.out HW0.out HW3.out k3);clear k3 hb3 HJ HC;go_wp2;exact⟨_,rfl,HJ1.out⟩
     ·have HJ1:=hid (hJ.s5 hW);clear hJ;go_wp2;exact⟨_,rfl,HJ1.out⟩
     ·obtain⟨u,q1,_,q3,_⟩:=hJ.v4 (hJ.e5 hW);have HJ1:=hid (hJ.s6 hW q1);generalize hg5:g 5=y5;obtain rfl:=hg5.symm.trans (q3 hW);clear hJ q1 q3;go_wp2;exact⟨_,rfl,HJ1.out⟩
     ·have hW:=hW.1;obtain⟨u,q1,_,q3,_⟩:=hJ.v4 (hJ.e5 hW);generalize hg5:g 5=y5;obtain rfl:=hg5.symm.trans (q3 hW);clear hJ q1 q3;go_wp2;exact⟨_,rfl,HJ.out.s7⟩
     ·have h6:d 6=true:=hW.1;obtain⟨u,_,q2,_,q4⟩:=hJ.v4 (hJ.e5 (hJ.e6 h6));have hb:=hJ.bl hd;obtain⟨bn',bd',dn',dd',rfl,g2,g3,g4,g5⟩:=(q2 hd).ex;have HStep:=HI.out.step hb (q':=zf0 (zau ix x)) HEnd.out.symm g2 g3 g4 g5;have HJ1:=hid (fun v=>hJ.s8 (v:=v) h6 HStep);obtain⟨_,_,_,_,⟨z0,z1,z2,zf,zlt⟩,_⟩:=(HI.out.box.below hb).ex;generalize hg6:g 6=y6;obtain rfl:=hg6.symm.trans (q4 h6);clear hJ q2 q4 g4 g5 hb HStep;go_wp2;exact⟨trivial,_,HJ1.out (.bool false)⟩
    ·intro d g W hA hJ;have HF:=hid (hJ.fin (hA 8 Yd));clear hJ hA;simp[ze,Act.put];go_wp2
     go_meet
     exact HF.out
   case rest=>
    have HI9:=hid hcut;have hbx:zem wc (w.heap.size+1) RR:=by rw[HEnd.out];exact HI9.out.box
    obtain⟨tn,td,tcn,tcd,⟨x0,x1,x2,_,xlt⟩,t2,t3,t4,t5⟩:=hbx.ex;obtain⟨hS,hV⟩:=HI9.out.res.put t2 t3 t4 t5;obtain⟨HS,HV,HBl⟩:=hd3 hS hV (zu HI9.out.bl (Za _) (.bool RR.neg) (.slice tn RR.num.length tcn) (.slice td RR.den.length tcd));obtain⟨y0,y1,y2,yf,ylt⟩:=HI9.out.res.c;clear hbx hS hV t4 t5 hcut;go_wp2;obtain⟨z0,z1,z2,zf,zlt⟩:=HS.out;have hNP:zcj w RR (.returned (.agg #[.bool RR.neg,.slice tn RR.num.length tcn,.slice td RR.den.length tcd])) (((wc.setCell ⟨w.heap.size,0,none⟩ (.bool RR.neg)).setCell ⟨w.heap.size,1,none⟩ (.slice tn RR.num.length tcn)).setCell ⟨w.heap.size,2,none⟩ (.slice td RR.den.length tcd)):=⟨_,rfl,HV.out,HBl.out⟩
    generalize((wc.setCell ⟨w.heap.size,0,none⟩ (.bool RR.neg)).setCell ⟨w.heap.size,1,none⟩ (.slice tn RR.num.length tcn)).setCell ⟨w.heap.size,2,none⟩ (.slice td RR.den.length tcd)=Y at *;exact Zp (v:=.agg #[.bool RR.neg,.slice tn RR.num.length tcn,.slice td RR.den.length tcd]) KN rfl hNP
