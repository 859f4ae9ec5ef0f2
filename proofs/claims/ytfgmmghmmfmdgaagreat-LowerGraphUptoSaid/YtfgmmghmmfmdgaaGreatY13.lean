/-
  Contracts: RefH, RefI, RefJ, RefK, RefL, RefM, RefN, RefO, RefP, RefQ, RefR, RefS, RefT, RKB, IntD, RatH, RatI, EvS, RBox, EvA, RefV, EvB, OwnR, LinA, RatG.
-/
import Derived.Test.YtfgmmghmmfmdgaaGreatY12
import Derived.Deep.RegionWith
import Derived.Test.YtfgmmghmmfmdgaaGreatY7
import Derived.Test.YtfgmmghmmfmdgaaGreatY0
set_option linter.all false
set_option maxRecDepth 100000
set_option maxHeartbeats 3200000
namespace Go.Proofs.YtfgmmghmmfmdgaaGreat
open Go.RowKit
open Go.Lib (hid)
variable {P:Prop} {w w' W W' w1:World} {l m:List Nat} {x y g n k1 k2 B gs h cn cd T lo:Nat} {s d u p q r t e:Value} {z:Int} {neg n1 n2:Bool} {k:Rat} {L:List zaI} {an ad:Option Addr} {xs:List Value} {out:List (Nat×Rat)}
theorem Ut(h:P:=by
 try simp only[hL]
 clear hL;have HR:=hid hR;clear hR;go_wp2;exact⟨_,rfl,HR.out,Zg _ _,rfl⟩
):P:=h
theorem U6(h:P:=by
 obtain⟨j,hj,rfl,HA,HB⟩:=hrel
 by_cases hlt:j<L.length
 ·obtain⟨b,off,x,an,ad,cn,cd,rfl,hb,hx,o0,o1,o2,hv⟩:=(H.out.below HB.out).pick hlt;obtain⟨HM,HT⟩:=hd2 (Zt hx) (zjb hx);have HC:=hid (zqn hv (HL.out _ HM.out));clear hx hv
  go_wp2_with fail
  refine HC.out.mono ?_
  rintro e w2 ⟨rfl,hb2⟩;have HB2:=htr HB hb2;clear hb2 HC o0 o1 o2
  cases hq:zL x with
  | false=>
   have HF2:=hid (HF.out x HM.out hq);clear hq;go_wp2;go_ret;exact⟨zj HF2.out.symm,HB2.out⟩
  | true=>
   have HT2:Hid ((L.take (j+1)).all zL=true):=Vf;clear hq;go_wp2;go_roundw
   case rel=>exact⟨j+1,hlt,Yg,HT2.out,HB2.out⟩
   case measure=>simp[intOf];omega
 ·have HR2:Hid (L.all zL=true):=by
   have h:=HA.out;rw[ZQ Ya]at h;exact h
  go_wp2;go_ret;exact⟨zj HR2.out.symm,HB.out⟩
):P:=h
theorem UI(h:P:=by go_wp2_with fail;refine HM.out.mono ?_;rintro e w3 ⟨v3,rfl,⟨a3,c3,rfl,q1,q2⟩,q5⟩;have hS3:=HB2.out.trans (q5.mono HB2.out.size);obtain⟨t0,t1,tf,tlt⟩:=HF.out.c.below hS3;obtain⟨HI,HBf⟩:=hd2 (zjj.store (HF.out.nc.below hS3 HF.out.c.lt) q1 q2) (zau (p:=.bool (decide (sgn n1 x+sgn n2 y<0))) (q:=.slice a3 (ze (sgn n1 x+sgn n2 y).natAbs).length c3) (HF.out.bl.trans (hS3.mono Yy)) (show w.heap.size<=w.heap.size+1+1 from Ya));clear q2 q5 hS3 HM;generalize decide (sgn n1 x+sgn n2 y<0)=B at *;generalize(ze (sgn n1 x+sgn n2 y).natAbs).length=L at *;go_wp2;exact Zr (v:=.agg #[.bool B,.slice a3 L c3]) KQ rfl ⟨_,rfl,HI.out,HBf.out⟩):P:=h
theorem UR(h:P:=by
 have HLL:=hid hL;clear hB hL HX;go_wp2;have hU:zt ((w2.setCell ⟨w.heap.size,0,none⟩ (.bool B)).setCell ⟨w.heap.size,1,none⟩ (.slice a2 L.length c2)) a2 L:=(K2.out.setCell HN2.out _ _).setCell (HN2.out.setCell _ _ Yd) _ _;have hbf:=(HB2.out.setCell (p:=⟨w.heap.size,0,none⟩) (Za _) (.bool B)).setCell (p:=⟨w.heap.size,1,none⟩) (Za _) (.slice a2 L.length c2);exact Zr (v:=.agg #[.bool B,.slice a2 L.length c2]) KZ rfl ⟨_,rfl,⟨a2,c2,by rw[HBB.out,HLL.out],by rw[HLL.out];exact k1,by rw[HLL.out];exact hU⟩,hbf⟩
):P:=h
theorem Tf(h:P:=by
 intro u hu;unfold Builtin.zeroCells at hu;obtain⟨i,hi,rfl⟩:=Array.mem_map.1 hu;rw[Array.mem_range]at hi;have hp:0<z.cells.size:=by
  rcases ZaH z.cells.size with h0|h0
  ·rw[h0]at hi;omega
  ·exact h0
 have hlt:i%z.cells.size<z.cells.size:=Z1 _ hp;rw[getElem!_pos z.cells _ hlt];exact h _ (Array.getElem_mem hlt)
):P:=h
theorem Tj(h:P:=by have b1':=(b1.below s2).below s3;have b2':=b2.below s3;have bl:=(s1.trans (s2.mono Yd)).trans (s3.mono Yj);simp only[Zbe]at b2' b3 n3;exact⟨b1',b2',b3,n3,bl⟩):P:=h
theorem T6(h:P:=by rintro e w1 ⟨a1,c1,l1,rfl,p1,p2,p3,p4,p5⟩;obtain⟨HP2,HP3,HP5⟩:=hd3 p2 p3 p5;clear p2 p3 p5 q0 q1 q2 q3 q4 q5;go_wp2;exact⟨_,rfl,⟨Zl hB HP5.out.size,HR.out.be.trans (HP5.out.mono hB)⟩,HP5.out,a1,c1,l1,rfl,p1,HP2,HP3,p4⟩):P:=h
theorem T7(h:P:=by
 rcases h.2 with⟨rfl,hn⟩|⟨g,cap,cur,rfl,hb,hg,hnc,hcm,hcs,htake⟩
 ·exact⟨none,0,by rw[hn],Ya⟩
 ·exact⟨_,cap,rfl,hnc⟩
):P:=h
theorem TF(h:P:=by rintro e w1 ⟨a2,c2,rfl,g1,g2,g3,_⟩;obtain⟨HG2,HG3⟩:=hd2 g2 g3;clear g2 g3 q0 q1 q2 q3 q4 q5;go_wp2;exact⟨_,rfl,⟨Zl hB HG3.out.size,HR.out.be.trans (HG3.out.mono hB)⟩,HG3.out,a2,c2,rfl,g1,HG2⟩):P:=h
theorem TK(h:P:=by
 try simp only[hL]
 clear hL;have HR:=hid hR;clear hR;go_wp2;exact⟨_,rfl,HR.out.alloc _,(Zg V.heap.size V).alloc (Za _) _,V.heap.size,hB,rfl,za1.alloc _ _ _ _,zV.alloc V _ _ Yd⟩
):P:=h
theorem TN(h:P:=by generalize g 1=y1 at hL⊢;generalize g 7=y7 at hL⊢;obtain⟨rfl,⟨a2,c2,rfl,g1,HG2⟩,_⟩:=hL;have HR:=hid hR;clear hR;go_wp2;exact⟨_,rfl,HR.out,Zg _ _,a2,c2,rfl,g1,HG2⟩):P:=h
theorem Eh(h:P:=by
 intro u hu
 rcases Zay.1 hu with hu|hu
 ·rcases Zay.1 hu with hu|hu
  ·exact hcur _ JY
  ·exact hnn _ hu
 ·exact hcur _ JZ
):P:=h
theorem Ek(h:P:=by
 rcases Array.mem_append.1 hu with hu|hu
 ·refine hcur _ ?_
  rw[<- htake]at hu;exact Array.mem_toList_iff.1 (Z4 XZ)
 ·exact hnn _ XZ
):P:=h
theorem Ex(h:P:=by go_wp2;exact Zr (v:=.agg #[.bool false,.slice a2 L.length c2,.slice (some ⟨p1,o1,none⟩) 1 c3]) Yo rfl ⟨_,rfl,Ve,HBE1.out false⟩):P:=h
theorem Ey(h:P:=by go_wp2;exact Zr (v:=.agg #[.bool false,.slice a2 L.length c2,.slice a3 (ze (d/G)).length c3]) Yo rfl ⟨_,rfl,Xq,HBE.out false⟩):P:=h
theorem Ez(h:P:=by clear q2 q3 q5 hS3 HM hsg;go_wp2;exact Zr (v:=.agg #[.bool B,.slice a3 l3.length c3]) KR rfl ⟨_,B,_,rfl,HI.out,HSg.out,HBf.out⟩):P:=h
theorem EG(h:P:=by go_wp2;exact Zr (v:=.agg #[.bool false,.slice a2 L.length c2,.slice none 0 0]) Yo rfl ⟨_,rfl,Xq,HBE.out false⟩):P:=h
theorem Ih(h:P:=by
 by_cases k2:lo+1<=v/\v<lo+1+n
 ·rw[Zq k2,Zq Ya]
 ·rw[Zh k2,Zh Ya]
):P:=h
theorem Ip(h:P:=by exact ZU _ _ _ ((ZC _ _ _ _ Yr).trans h.c1)):P:=h
theorem Is(h:P:=by unfold Hid;rw[zbU _ _ (Zaw (z6 _) (z6 _)),ztb];rfl):P:=h
theorem It(h:P:=by rw[ZC _ _ _ _ Yr];exact ZU _ _ _ h.c0):P:=h
theorem Yo(h:P:=by simp[results,Tryz.results74,go_sem,r0,r1,r2]):P:=h
theorem X9(h:P:=by simp[results,Tryz.results76,go_sem,r0,r1]):P:=h
theorem KQ(h:P:=by simp[results,Tryz.results109,go_sem,t0,t1]):P:=h
theorem KR(h:P:=by simp[results,Tryz.results160,go_sem,t0,t1]):P:=h
theorem KZ(h:P:=by simp[results,Tryz.results47,go_sem,r0,r1]):P:=h
theorem Jc(h:P:=by simp[results,Tryz.results87,go_sem,t0,t1]):P:=h
def zpO(w:World)(x y:Nat)(e:Ending)(w':World):Prop:=∃a c b d,e=.returned (.tuple #[.slice a (ze (x/y)).length c,.slice b (ze (x%y)).length d,.int .i64 0])/\(ze (x/y)).length<=c/\(ze (x%y)).length<=d/\zt w' a (ze (x/y))/\zt w' b (ze (x%y))/\Below w.heap.size w w'
theorem zgU{a b:Option Addr}(c d:Nat)(hc:l.length<=c)(hd:m.length<=d)(h:zt w a l)(g:zt w b m)(hx:zo l=x)(hy:zo m=y)(hr:l.length<=2097152)(hr2:m.length<=2097152)(hy0:0<y)
 (h1:(ze x).length<=2)(h2:(ze y).length<=2):
  Calls Tryz.prog 106 #[.slice a l.length c,.slice b m.length d] w (zpO w x y):=by
 obtain⟨HA,HB,HG⟩:=hd3 (zkz c hc h hx Ya) (fun wv (hu:zt wv b m)=>zkz d hd hu hy Ya) g;have HO1:Hid (zb2 x=true):=Zk h1;have HO2:Hid (zb2 y=true):=Zk h2;obtain⟨HX,HY⟩:=hd2 (zeX h1) (zeX h2);rw[HO1.out,Zq h1]at HA;simp only[HO2.out,Zq h2]at HB;have hz1:((y:Int)==0)=false:=bn0 Ya;clear h g hx hy hc hd h1 h2
 go_enter Tryz.func106,Tryz.ntmps106
 go_wp2_with fail
 refine HA.out.mono ?_
 rintro e w1 ⟨rfl,hb1⟩;have HB2:=HB.out w1 (HG.out.below hb1);obtain⟨HC,HB1⟩:=hd2 HB2 hb1;clear HA HB HB2 hb1
 go_wp2_with fail
 refine HC.out.mono ?_
 rintro e w2 ⟨rfl,hb2⟩;have HB2:=htr HB1 hb2;have HYp:=hid hy0;clear hb2 HC HB1;have D1:=zgD x y;have D2:=zeY x y;have D3:Hid (x/y<18446744073709551616):=ZaG (Za9 _ _) HX.out;have D4:Hid (x%y<18446744073709551616):=ZaG (Nat.mod_le _ _) HX.out;have O1:Hid (∀wv,Calls Tryz.prog 77 #[.int .u64 (IntKind.u64.wrap ((x:Int)/(y:Int)))] wv (zpU wv (x/y))):=fun wv=>by
  have h:=zrT (x/y) D3.out wv
  rwa [show((x/y:Nat):Int)=IntKind.u64.wrap ((x:Int)/(y:Int)) by rw[IntKind.wrap_u64,<- Int.natCast_ediv];have:=D3.out;generalize x/y=q at *;omega]at h
 have O2:Hid (∀wv,Calls Tryz.prog 77 #[.int .u64 ((x:Int)%(y:Int))] wv (zpU wv (x%y))):=fun wv=>by
  have h:=zrT (x%y) D4.out wv
  rwa [Int.natCast_emod]at h
 go_wp2
 go_region_with (go_at_call 77;first|((with_reducible refine(O1.out _).mono ?_);rintro e w3 ⟨a3,c3,rfl,h3,h4,h5,h6⟩)|((with_reducible refine(O2.out _).mono ?_);rintro e w3 ⟨b3,d3,rfl,g3,g4,g5,g6⟩))
 all_goals
  go_wp2
  go_ret3
  have k5:=(Zg w2.heap.size w2).drew.trans h5;exact⟨a3,c3,b3,d3,rfl,h3,g3,h4.below g5,g4,HB2.out.trans ((k5.trans (g5.mono k5.size)).mono HB2.out.size)⟩
theorem zt.setFar{a:Option Addr}(h:zt w a l)(hf:Far (g+1) a)(o:Nat)(v:Value):zt (w.setCell ⟨g,o,none⟩ v) a l:=by
 by_cases hl:l=[]
 ·exact I9
 obtain⟨b,off,rfl,hb,hc⟩:=h.open hl;have hne:b≠g:=by
  have:=hf _ rfl;simp only at this;omega
 exact((zfH.refl g w).setCell o v).u32s hne h
theorem zq8{a s:Nat}(ha:a<4294967296)(hs:s<32):bits .or .u32 (a:Int) (2^s%4294967296)=((a ||| 2^s:Nat):Int):=by
 have h1:2^s<=2^31:=ZE Ya Ya;have h2:((2:Int)^s%4294967296)=((2^s:Nat):Int):=by
  have:((2:Int)^s)=((2^s:Nat):Int):=Yd;rw[this];clear this;generalize 2^s=p at *;omega
 rw[h2,zdU _ _ ha Ya]
theorem zjq(a:Nat)(ha:a<4294967296):bits .and .u32 (a:Int) 1=((a%2:Nat):Int):=by
 have h1:(BitVec.ofInt 32 (a:Int)).toNat=a:=EK;show IntKind.u32.wrap ((BitVec.ofInt 32 (a:Int) &&& BitVec.ofInt 32 (1:Int)).toNat:Int)=_
 rw[BitVec.toNat_and,h1,show(BitVec.ofInt 32 (1:Int)).toNat=1 from rfl,Nat.and_one_is_mod,IntKind.wrap_u32];omega
theorem zmA{R m b:Nat}(h:(ze R).length<=m)(hb:b<2):(ze (R*2+b)).length<=m+1:=by
 apply zaC
 have h1:=Zd (zaS R) (ZE (show 0<4294967296 from Ya) h);rw[ZaQ];omega
theorem zt.one(w:World){b:Nat}(hb:b<4294967296)(T:Nat):zt (w.alloc (.cells #[.int .u32 (b:Int)] T)) (some ⟨w.heap.size,0,none⟩) [b]:=by
 refine⟨by intro d hd;simp at hd;omega,Yd,.inr ⟨w.heap.size,0,rfl,Yd,fun j d hj=>?_⟩⟩
 exact Io
theorem zh4{w:World}{a b:Option Addr}{l m:List Nat}{x y:Nat}(c d:Nat)(hc:l.length<=c)(hd:m.length<=d)(h:zt w a l)(g:zt w b m)(hx:zo l=x)(hy:zo m=y)(hr:l.length<=2097152)(hr2:m.length<=2097152)(hy0:0<y)
 (h12:¬ ((ze x).length<=2/\(ze y).length<=2)):
  Calls Tryz.prog 106 #[.slice a l.length c,.slice b m.length d] w (zpO w x y):=by
 obtain⟨HA,HB,HBt,HU,HG,HX⟩:=hd6 (zkz c hc h hx Ya) (fun wv (hu:zt wv b m)=>zkz d hd hu hy Ya) (fun wv (hu:zt wv a l)=>zrJ c hc hu hx Ya) h g hx;have HY:=hid hy;have hlx:(ze x).length<=l.length:=Yl;obtain⟨i0,hi,hz3,hz4,hz5⟩:=info_parts Tryz.infoU32;have hfl:(zb2 y && (if(ze y).length<=2 then(y:Int)else 0)==0)=false/\(zb2 x && zb2 y)=false:=by
  unfold zb2
  by_cases h1:(ze y).length<=2
  ·have h2:¬ (ze x).length<=2:=fun h=>h12 ⟨h,h1⟩
   simp[h1,h2];omega
  ·simp[h1]
 obtain⟨f1,f2⟩:=hfl;clear h g hx hy hc hd h12
 go_enter Tryz.func106,Tryz.ntmps106
 go_wp2_with fail
 refine HA.out.mono ?_
 rintro e w1 ⟨rfl,hb1⟩;have HB2:=HB.out w1 (HG.out.below hb1);obtain⟨HC,HB1⟩:=hd2 HB2 hb1;clear HA HB HB2 hb1;generalize(if(ze x).length<=2 then(x:Int)else 0)=X at *;generalize(if(ze y).length<=2 then(y:Int)else 0)=Y at *;generalize zb2 x=P at *;generalize zb2 y=Q at *
 go_wp2_with fail
 refine HC.out.mono ?_
 rintro e w2 ⟨rfl,hb2⟩;have HB2:=htr HB1 hb2;have HYp:=hid hy0;clear hb2 HC HB1;have hPQ:(Q=false/\P=false)∨(Q=false/\P=true)∨(Q=true/\P=false/\(Y==0)=false):=by
  cases Q<;>cases P<;>simp_all
 clear f1 f2
 rcases hPQ with⟨rfl,rfl⟩|⟨rfl,rfl⟩|⟨rfl,rfl,hY0⟩
 all_goals
  go_wp2_with (at_make;refine wpList_make_full _ rfl _ _ 48 rfl w2.heap.size 109 i0 (.int .u32 0) 1 Tryz.underlying48 hi hz3 hz4 _ _ _ _ l.length rfl rfl Ya Ya ?b2 ?b3 (Za _) ?_)
  case b2=>rw[hz5];omega
  case b3=>unfold maxLen;omega
  intro w3 hown hgrow;have HB0:Hid (Blk w3 w2.heap.size l.length (zb0 0) 109):=by
   refine Blk.of_own (base:=w2.heap.size) ?_
   have e:(madeCells #[Value.int IntKind.u32 0] l.length).toList=(List.range l.length).map fun i=>Value.int .u32 ((zb0 0 i:Nat):Int):=by
    simp[Zbs,List.map_const',zjF]
   rw[<- e];exact hown
  have hb3:Below w2.heap.size w2 w3:=(Zg _ _).grown hgrow (Za _) (fun k h=>YG);clear hown hgrow
  try clear hY0
  go_wp2_with fail
  refine(HBt.out _ (HU.out.below ((HB2.out.trans (hb3.mono HB2.out.size)).alloc (Zl HB2.out.size hb3.size) _))).mono ?_
  rintro e w4 ⟨n,rfl,hn1,hn2,hb4⟩;have HN1:=hid hn1.1;have hb34:=((Zg _ w3).alloc (Za _) _).trans (hb4.mono Yd);have HBk:Hid (Blk w4 w2.heap.size l.length (zb0 (zds x y n)) 109):=by
   rw[(zpw HN1.out).2];exact HB0.out.below hb34
  have HB4:=hid (hb3.trans (hb34.mono hb3.size));have hR0:=(zpw (B:=y) HN1.out).1;have HF0:Hid (Far (w2.heap.size+1) (some ⟨w3.heap.size,0,none⟩)):=fun p e=>by cases e;exact HB0.out.lt
  clear HB0 hb3 hb4 hb34 hn1 HBt;go_wp2
  go_loopw [12,13] (fun r i wr=>∃(k:Nat) (I:Int) (a1:Option Addr) (c1:Nat),k<=n/\I+1=(k:Int)/\i=.int .i64 I/\r=.slice a1 (ze (zdz x y k)).length c1/\(ze (zdz x y k)).length<=c1/\Hid (zt wr a1 (ze (zdz x y k)))/\Hid (Far (w2.heap.size+1) a1)/\Hid (Blk wr w2.heap.size l.length (zb0 (zds x y k)) 109)/\Hid (Below w2.heap.size w2 wr)) (fun _ i _=>(intOf i+1).toNat)
  case atStart=>exact⟨n,_,_,0,Za _,Ya,rfl,by rw[hR0,zr];rfl,by rw[hR0,zr];exact Za _,by unfold Hid;rw[hR0,zr];exact zt.nil _ _,HF0,HBk,HB4⟩
  case round=>
   clear hR0 HF0 HBk HB4;obtain⟨k,I,a1,c1,hk,hI,rfl,rfl,hc1,HR,HF,HBk,HBw⟩:=hrel
   cases k with
   | zero=>
    obtain rfl:I= -1:=Ya;have hxl:x<4294967296^l.length:=by rw[<- HX.out];exact zcP HU.out.lim
    have hv:zo ((List.range l.length).map (zb0 (zds x y 0)))=x/y:=by
     rw[zby,zjT _ _ (ZaG (zpe _ _ _) hxl),(zpC x y).2]
    have hU:=HBk.out.u32s (fun i _=>zix _ _) Ya;have hM:=zdv l.length Yd hU Yj;rw[hv]at hM;simp only[ZP,Zaj]at hM;have HM:=hid hM;rw[(zpC x y).1]at hc1 HR⊢;clear hM hU hv hxl
    go_wp2_with fail
    refine HM.out.mono ?_
    rintro e w5 ⟨a2,c2,rfl,h2,g2,hb5,hf5⟩;obtain⟨g3,g4,HB5⟩:=hd3 (HR.out.below hb5) g2 (HB2.out.trans ((HBw.out.trans (hb5.mono HBw.out.size)).mono HB2.out.size));clear HM hb5 hf5 g2;go_wp2
    go_ret3
    exact⟨a2,c2,a1,c1,rfl,h2,hc1,g4.out,g3.out,HB5.out⟩
   | succ q=>
    obtain rfl:I=(q:Int):=Ya;have hRy:zdz x y (q+1)<y:=Z1 _ HYp.out;have hlR:(ze (zdz x y (q+1))).length<=m.length:=Zl (zaD (Z6 hRy)) (by rw[<- HY.out];exact zz HG.out.lim);have hS:=zsj c1 0 1 1 Ya Ya Ya HR.out (zi _) Ya;rw[Nat.pow_one]at hS;have HS:=hid hS;clear hS;obtain⟨p1,o1,rfl,hp1,q1⟩:=(HU.out.below (HB2.out.trans (HBw.out.mono HB2.out.size))).pick (show q/32<l.length from Ya);have hbit:bits .and .u32 ((dig l (q/32):Int)/2^(q%32)) 1=((zgK x q:Nat):Int):=by
     rw[<- HX.out,zng HU.out.lim,show((dig l (q/32):Int)/2^(q%32))=((dig l (q/32)/2^(q%32):Nat):Int)from Yd,zjq _ (ZaG (Za9 _ _) (zD HU.out.lim _))]
    have hdl:=zD HU.out.lim (q/32);have hB2:=zkL x q;obtain⟨HGe,HLt⟩:=hd2 (fun h=>zqk (A:=x) (B:=y) (i:=q) HYp.out h) (fun h=>zpY (A:=x) (B:=y) (i:=q) h);generalize hRR:zdz x y (q+1)=R at *;have HRR:=hid hRR;generalize zgK x q=B at *;generalize dig l (q/32)=dg at *;clear hRR
    go_wp2_with fail
    refine HS.out.mono ?_
    rintro e w5 ⟨a2,c2,rfl,h2,g2,hb5,hf5⟩;have q2:w5.cell? ⟨p1,o1+q/32,none⟩=_:=(hb5.cell hp1).trans q1;obtain⟨g3,HB5,HF5⟩:=hd3 g2 hb5 hf5;clear HS hb5 hf5 g2 q1;have hl2:(ze (R*2)).length<=m.length+1:=zmA (b:=0) hlR Ya;have hl3:=zmA hlR hB2;have hA:=zrQ (w:=w5.alloc (.cells #[.int .u32 (B:Int)] 109)) c2 1 (g3.out.below ((Zg _ _).alloc (Za _) _)) (zt.one w5 Ya _) (zi _) (zj8 B) Ya Yd;have HA:=hid hA;clear hA
    go_wp2_with fail
    refine HA.out.mono ?_
    rintro e w6 ⟨a3,c3,rfl,h6,g6,hb6,hf6⟩;have G6:=hid g6;have hb56:=((Zg _ w5).alloc (Za _) _).trans (hb6.mono Yd);have hb26:=HBw.out.trans ((HB5.out.trans (hb56.mono HB5.out.size)).mono HBw.out.size);obtain⟨HB26,HC6⟩:=hd2 hb26 (zrP c3 d g6 (HG.out.below (HB2.out.trans (hb26.mono HB2.out.size))));rw[zi,HY.out]at HC6;obtain⟨HF6,HBk6⟩:=hd2 (hf6.mono (show w2.heap.size+1<=_ from Zl (Zl HBk.out.lt HB5.out.size) Yd)) (HBk.out.below (HB5.out.trans (hb56.mono HB5.out.size)));clear HA hb6 hf6 g6 hb56 hb26 g3 HR HBk HBw HB5 HF5 HF hbit q2
    go_wp2_with fail
    refine HC6.out.mono ?_
    rintro e w7 ⟨rfl,rfl⟩;have HGe2:Hid (y<=R*2+B->zdz x y q=R*2+B-y/\zds x y q=zds x y (q+1) ||| 2^q):=fun h=>by
     have:=HGe.out Ya
     rwa [Zz 2 R]at this
    have HLt2:Hid (R*2+B<y->zdz x y q=R*2+B/\zds x y q=zds x y (q+1)):=fun h=>by
     have:=HLt.out Ya
     rwa [Zz 2 R]at this
    clear HGe HLt HC6 hl2;generalize R*2+B=N at *
    by_cases hge:y<=N
    ·have hcm:decide (0<=zdy N y)=true:=by
      apply Zk
      unfold zdy;rw[Zh Ya]
      split<;>omega
     have HS:=hid (zqf c3 d G6.out (HG.out.below (HB2.out.trans (HB26.out.mono HB2.out.size))) (zi N) HY.out Ya Ya)
     go_wp2_with fail
     refine HS.out.mono ?_
     rintro e w8 (⟨hlt,_⟩|⟨_,hb8,a4,c4,rfl,h8,g8,hf8⟩)
     ·omega
     have HB8:=htr HB26 hb8;have hbk8:=HBk6.out.below hb8;have k1:=hbk8.cell (x:=q/32) Ya;have k2:=hbk8.free (q/32);have hlo:=zix (zds x y (q+1)) (q/32);obtain⟨HBk8,HF8,G8⟩:=hd3 hbk8 (hf8.mono (show w2.heap.size+1<=_ from Zl HBk6.out.lt (Za _))) g8;clear HS hb8 hbk8 g8 hf8 HF6 HBk6 HB26 G6 hcm;go_wp2
     go_region
     go_wp2;go_roundw
     case rel=>
      have e:=HGe2.out hge
      refine⟨q,(q:Int)-1,a4,c4,Ya,Ya,rfl,by rw[e.1],by rw[e.1];exact h8,by rw[e.1];exact(G8.out.setFar HF8.out _ _).drewN 1,HF8,?_,((HB8.out.setCell (Za _) _).drew)⟩
      unfold Hid;rw[e.2,zq8 hlo (Z1 _ Ya)];exact((HBk8.out.set (q/32) _).congr (fun i _=>by rw[znc];by_cases hi:i=q/32<;>simp[hi])).drewN 1
     case measure=>simp[intOf]
    ·have hcm:decide (0<=zdy N y)=false:=by
      apply Zo
      unfold zdy;rw[Zq Ya];omega
     go_wp2;go_roundw
     case rel=>
      have e:=HLt2.out Ya
      refine⟨q,(q:Int)-1,a3,c3,Ya,Ya,rfl,by rw[e.1],by rw[e.1];exact h6,by rw[e.1];exact G6,HF6,by rw[e.2];exact HBk6,HB26⟩
     case measure=>simp[intOf]
theorem zh6{a b:Option Addr}(c d:Nat)(hc:l.length<=c)(hd:m.length<=d)(h:zt w a l)(g:zt w b m)(hx:zo l=x)(hy:zo m=y)(hr:l.length<=2097152)(hr2:m.length<=2097152)(hy0:0<y):
  Calls Tryz.prog 106 #[.slice a l.length c,.slice b m.length d] w (zpO w x y):=by
 by_cases h12:(ze x).length<=2/\(ze y).length<=2
 ·exact zgU c d hc hd h g hx hy hr hr2 hy0 h12.1 h12.2
 ·exact zh4 c d hc hd h g hx hy hr hr2 hy0 h12
theorem zsl{a b:Option Addr}(c d:Nat)(hc:l.length<=c)(hd:m.length<=d)(h:zt w a l)(g:zt w b m)(hx:zo l=x)(hy:zo m=y)(hr:l.length<=2097152)(hr2:m.length<=2097152):
  Calls Tryz.prog 105 #[.slice a l.length c,.slice b m.length d] w (znQ w (Nat.gcd x y)):=by
 have hA:=zdv c hc h Ya;rw[hx]at hA;obtain⟨HA,HB⟩:=hd2 hA (fun wv (hu:zt wv b m)=>zdv d hd hu Ya);rw[hy]at HB;have HG:=hid g;have hle:(ze x).length<=l.length:=Yl;have hle2:(ze y).length<=m.length:=Y1;clear h g hx hy hc hd hA
 go_enter Tryz.func105,Tryz.ntmps105
 go_wp2_with fail
 refine HA.out.mono ?_
 rintro e w1 ⟨a1,c1,rfl,hc1,ha1,hb1,_⟩;obtain⟨HB2,HA1,HBe⟩:=hd3 (HB.out w1 (HG.out.below hb1)) ha1 hb1;clear HA HB ha1 hb1
 go_wp2_with fail
 refine HB2.out.mono ?_
 rintro e w2 ⟨b1,d1,rfl,hd1,hb2,hbb2,_⟩;obtain⟨HA2,HB3⟩:=hd2 (HA1.out.below hbb2) hb2;have HBw:=htr HBe hbb2;clear HB2 hb2 hbb2 HA1 HBe;go_wp2
 go_loopg [0,1] y (fun k p q wr=>∃(A B:Nat) (a1 b1:Option Addr) (c1 d1:Nat),k=B/\p=.slice a1 (ze A).length c1/\q=.slice b1 (ze B).length d1/\(ze A).length<=c1/\(ze B).length<=d1/\(ze A).length<=2097152/\(ze B).length<=2097152/\Hid (zt wr a1 (ze A))/\Hid (zt wr b1 (ze B))/\Hid (Nat.gcd A B=Nat.gcd x y)/\Below w.heap.size w wr)
 case atStart=>exact⟨x,y,a1,b1,c1,d1,rfl,rfl,rfl,hc1,hd1,Ya,Ya,HA2,HB3,rfl,HBw.out⟩
 case round=>
  clear HA2 HB3 hc1 hd1 hle hle2 hr hr2 HBw;obtain⟨A,B,a1,b1,c1,d1,hgk,rfl,rfl,hc1,hd1,hrA,hrB,HA1,HB1,HG,hb⟩:=hrel;have HGk:=hid hgk;clear hgk
  by_cases h0:B=0
  ·subst h0;have HG0:Hid (A=Nat.gcd x y):=Kk;rw[zr]at *;go_wp2;go_ret
   refine⟨a1,c1,?_,?_,?_,hb⟩
   ·rw[<- HG0.out];rfl
   ·rw[<- HG0.out];exact hc1
   ·rw[<- HG0.out];exact HA1.out
  ·have hB0:0<B:=Zak h0;have hlB:=zaj.2 hB0;have HD:=hid (zh6 c1 d1 hc1 hd1 HA1.out HB1.out (zi A) (zi B) hrA hrB hB0);clear h0
   go_wp2_with fail
   refine HD.out.mono ?_
   rintro e w' ⟨a2,c2,a3,c3,rfl,h3,h4,h5,h6,h7⟩;obtain⟨H6,HB2⟩:=hd2 h6 (HB1.out.below h7);have hb2:=hb.trans (h7.mono hb.size);clear HD h5 h6 h7 HA1 HB1 hb;go_wp2
   go_roundg (A%B)
   case measure=>rw[HGk.out];exact Z1 _ hB0
   case rel=>
    exact Eg
structure zjj (w:World) (v:Value) (z:Int):Prop where
 ex:∃(a:Option Addr) (c:Nat),v=.agg #[.bool (decide (z<0)),.slice a (ze z.natAbs).length c]/\(ze z.natAbs).length<=c/\zt w a (ze z.natAbs)
theorem zjj.below{v:Value}(h:zjj w v z)(hb:Below w.heap.size w w'):zjj w' v z:=by
 obtain⟨a,c,h1,h2,h3⟩:=h.ex;exact⟨a,c,h1,h2,h3.below hb⟩
theorem zjj.v{v:Value}(h:zjj w v z):zcE w v (decide (z<0)) z.natAbs (ze z.natAbs).length:=by
 obtain⟨a,c,h1,h2,h3⟩:=h.ex;exact⟨a,c,ze z.natAbs,h1,h2,h3,zi _,Za _⟩
def zrl(w:World)(z:Int)(e:Ending)(w':World):Prop:=∃v,e=.returned v/\zjj w' v z/\Below w.heap.size w w'
theorem zgr(neg:Bool)(n:Nat):decide (sgn neg n<0)=(neg && decide (n≠0)):=by
 cases neg
 ·simp[sgn]
 ·by_cases h:n=0
  ·simp[sgn,h]
  ·simp[sgn,h];omega
theorem zjj.mk'{a:Option Addr}{c:Nat}(h1:(ze n).length<=c)(h2:zt w a (ze n)):zjj w (.agg #[.bool (neg && decide (n≠0)),.slice a (ze n).length c]) (sgn neg n):=
 ⟨a,c,by rw[zgr,zbR],by rw[zbR];exact h1,by rw[zbR];exact h2⟩
theorem zg3{w:World}{a:Option Addr}{l:List Nat}(neg:Bool){n:Nat}(c:Nat)(hc:l.length<=c)(h:zt w a l)(hx:zo l=n)(hr:l.length<=17592186044416):
  Calls Tryz.prog 76 #[.bool neg,.slice a l.length c] w (zrl w (sgn neg n)):=by
 have hB0:=blA w (.cells #[.bool false,.slice none 0 0] 89);have hM:=zdv c hc (h.below hB0) Ya;rw[hx]at hM;have HM:=hid hM;have hR:=za1.alloc w (.bool false) (.slice none 0 0) 89;have hN:=zV.alloc w #[.bool false,.slice none 0 0] 89 Yd;obtain⟨HB,HR,HN⟩:=hd3 hB0 hR hN;clear h hx hB0 hR hN hM
 go_enter Tryz.func76,Tryz.ntmps76
 go_wp2_with fail
 refine HM.out.mono ?_
 rintro e w1 ⟨a1,c1,rfl,h1,h2,hb,_⟩;obtain⟨r0,r1,rf,rlt⟩:=HR.out.below hb;have HN1:=hid (HN.out.below hb Yd);have HB1:=htr HB hb;have H2:=hid h2;clear HM HR HN HB h2 hb
 by_cases hn:n=0
 ·subst hn;have hll:(ze 0).length=0:=by rw[zr];rfl
  have hs:sgn neg 0=0:=by cases neg<;>rfl
  rw[hs];rw[zr]at *;clear hs hll;have HC:Hid (∀w',zjj w' (.agg #[.bool false,.slice a1 0 c1]) 0):=fun w'=>⟨a1,c1,by simp[zr],by simp[zr],by simp[zr];exact zt.nil _ _⟩
  cases neg <;>
  ·go_wp2;have hbf:=(HB1.out.setCell (p:=⟨w.heap.size,0,none⟩) (Za _) (.bool false)).setCell (p:=⟨w.heap.size,1,none⟩) (Za _) (.slice a1 0 c1);exact Zr (v:=.agg #[.bool false,.slice a1 0 c1]) X9 rfl ⟨_,rfl,HC.out _,hbf⟩
 ·have hp:=zaj.2 (Zak hn);have HDn:=hid (Zk hn);have hd:decide (0<(ze n).length)=true:=Zk hp;have HC:Hid (∀w':World,zt w' a1 (ze n)->zjj w' (.agg #[.bool neg,.slice a1 (ze n).length c1]) (sgn neg n)):=fun w' h=>by
   have:=zjj.mk' (neg:=neg) h1 h
   rwa [HDn.out,Bool.and_true]at this
  clear hn;cases neg <;>
  ·go_wp2;have hU:∀B:Bool,zt ((w1.setCell ⟨w.heap.size,0,none⟩ (.bool B)).setCell ⟨w.heap.size,1,none⟩ (.slice a1 (ze n).length c1)) a1 (ze n):=fun B=>(H2.out.setCell HN1.out _ _).setCell (HN1.out.setCell _ _ Yd) _ _
   have hbf:=fun B:Bool=>(HB1.out.setCell (p:=⟨w.heap.size,0,none⟩) (Za _) (.bool B)).setCell (p:=⟨w.heap.size,1,none⟩) (Za _) (.slice a1 (ze n).length c1)
   first
    | exact Zr (v:=.agg #[.bool false,.slice a1 (ze n).length c1]) X9 rfl ⟨_,rfl,HC.out _ (hU _),hbf _⟩
    | exact Zr (v:=.agg #[.bool true,.slice a1 (ze n).length c1]) X9 rfl ⟨_,rfl,HC.out _ (hU _),hbf _⟩
theorem zmG{x:Int}(h1: -9223372036854775808<=x)(h2:x<0):IntKind.u64.wrap (-IntKind.u64.wrap x)=((x.natAbs:Nat):Int):=by
 rw[IntKind.wrap_u64,IntKind.wrap_u64];omega
theorem za6(h:n<18446744073709551616):(ze n).length<=2:=zaC (Zd h Yb)
theorem zr5(w:World)(x:Int)(h1: -9223372036854775808<=x)(h2:x<=9223372036854775807):
  Calls Tryz.prog 47 #[.int .i64 x] w (zrl w x):=by
 have hR:=za1.alloc w (.bool false) (.slice none 0 0) 89;have hN:=zV.alloc w #[.bool false,.slice none 0 0] 89 Yd;obtain⟨HR,HN⟩:=hd2 hR hN;clear hR hN
 by_cases hx:x<0
 ·have hO:=fun wv=>zrT x.natAbs Ya wv
  rw[<- zmG h1 hx]at hO;have HO:=hid hO;have HX:Hid (sgn true x.natAbs=x):=by unfold Hid sgn;simp;omega
  have hlen:=za6 (n:=x.natAbs) Ya;clear hO
  go_enter Tryz.func47,Tryz.ntmps47
  go_wp2_with fail
  refine(HO.out _).mono ?_
  rintro e w1 ⟨a1,c1,rfl,g1,g2,g3,_⟩;have hM:=zg3 true c1 g1 g2 (zi _) Ya;rw[HX.out]at hM;obtain⟨HM,HB,HR1,HN1⟩:=hd4 hM (((Zg _ w).alloc (Za _) (.cells #[.bool false,.slice none 0 0] 89)).trans (g3.mono Yd)) (HR.out.below g3) (HN.out.below g3 Yd);clear HO hM g2 g3 HR HN
  go_wp2_with fail
  refine HM.out.mono ?_
  rintro e w2 ⟨v2,rfl,⟨a2,c2,rfl,k1,k2⟩,hb2⟩;obtain⟨r0,r1,rf,rlt⟩:=HR1.out.below hb2;have HN2:=hid (HN1.out.below hb2 HR1.out.lt);have HB2:=htr HB hb2;have K2:=hid k2;clear HM k2 hb2 HR1 HN1 HB;generalize hB:decide (x<0)=B at *;have HBB:=hid hB;generalize hL:ze x.natAbs=L at *;exact UR
 ·obtain⟨n,rfl⟩:∃n:Nat,x=(n:Int):=⟨x.toNat,Ya⟩
  have HO:=hid (fun wv=>zrT n Ya wv);have HX:Hid (sgn false n=(n:Int)):=rfl;have hlen:=za6 (n:=n) Ya
  go_enter Tryz.func47,Tryz.ntmps47
  go_wp2_with fail
  refine(HO.out _).mono ?_
  rintro e w1 ⟨a1,c1,rfl,g1,g2,g3,_⟩;have hM:=zg3 false c1 g1 g2 (zi _) Ya;rw[HX.out]at hM;obtain⟨HM,HB,HR1,HN1⟩:=hd4 hM (((Zg _ w).alloc (Za _) (.cells #[.bool false,.slice none 0 0] 89)).trans (g3.mono Yd)) (HR.out.below g3) (HN.out.below g3 Yd);clear HO hM g2 g3 HR HN
  go_wp2_with fail
  refine HM.out.mono ?_
  rintro e w2 ⟨v2,rfl,⟨a2,c2,rfl,k1,k2⟩,hb2⟩;obtain⟨r0,r1,rf,rlt⟩:=HR1.out.below hb2;have HN2:=hid (HN1.out.below hb2 HR1.out.lt);have HB2:=htr HB hb2;have K2:=hid k2;clear HM k2 hb2 HR1 HN1 HB;generalize hB:decide ((n:Int)<0)=B at *;have HBB:=hid hB;generalize hL:ze (n:Int).natAbs=L at *;exact UR
theorem zpx{v:Value}{k:Nat}(h:zcE w v neg n k)(hr:k<=17592186044416):
  Calls Tryz.prog 103 #[v] w fun e w'=>e=.returned (.int .i64 (zcD neg n))/\Below w.heap.size w w':=by
 obtain⟨a,c,l,rfl,h1,h2,h3,h4⟩:=h.ex;have hB0:=blA w (.cells #[.bool neg,.slice a l.length c] 89);obtain⟨HM,HB⟩:=hd2 (zg3 neg c h1 (h2.below hB0) h3 Ya) hB0;have hR:=za1.alloc w (.bool neg) (.slice a l.length c) 89;have HR:=hid hR;have hl:=h2.len;clear h h2 hB0 hR h3
 go_enter Tryz.func103,Tryz.ntmps103
 go_wp2_with fail
 refine HM.out.mono ?_
 rintro e w1 ⟨v1,rfl,⟨a1,c1,rfl,g1,g2⟩,hb⟩;obtain⟨r0,r1,rf,rlt⟩:=HR.out.below hb;have f0:=rf 0;have f1:=rf 1;have HB1:=htr HB hb;rw[zbR,zgr];clear HM HR HB hb g2 rf
 by_cases hn:n=0
 ·subst hn;have HS:Hid (zcD neg 0=0):=rfl;rw[zr]at *;go_wp2;go_ret;exact⟨zaH HS.out.symm,(HB1.out.setCell (Za _) _).setCell (Za _) _⟩
 ·have hp:=zaj.2 (Zak hn);have HS:Hid (zcD neg n=if neg then -1 else 1):=by unfold Hid zcD;rw[Zh hn]
  have hz:(((ze n).length:Int)==0)=false:=bn0 Ya;have hn1:=Zk hn;rw[zbR]at g1;cases neg <;>
  ·go_wp2;go_ret;exact⟨zaH (by rw[HS.out];rfl),(HB1.out.setCell (Za _) _).setCell (Za _) _⟩
theorem zjo{a:Option Addr}(c:Nat)(hc:l.length<=c)(h:zt w a l)(hr:l.length<=17592186044416):Calls Tryz.prog 75 #[.slice a l.length c] w (zsU w (zw l) (l.length+1)):=by
 have hM:=hid (zdv c hc h Ya);have hle:=zz h.lim;have hl:=h.len;clear h
 go_enter Tryz.func75,Tryz.ntmps75
 go_wp2_with fail
 refine hM.out.mono ?_
 rintro e w1 ⟨a1,c1,rfl,h1,h2,h3,_⟩;obtain⟨H2,H3⟩:=hd2 h2 h3;clear hM h2 h3
 by_cases hn:zo l=0
 ·have HU:Hid (zw l=1):=Zq hn;rw[hn,zr]at *;clear hn;go_wp2;go_ret;exact⟨_,1,[1],rfl,Za _,zt.one w1 (b:=1) Ya _,by rw[HU.out];rfl,Yd,H3.out.alloc H3.out.size _⟩
 ·have HU:Hid (zw l=zo l):=Zh hn;have hp:=zaj.2 (Zak hn);have hz:(((ze (zo l)).length:Int)==0)=false:=bn0 Ya;clear hn;go_wp2;go_ret;exact⟨a1,c1,ze (zo l),rfl,h1,H2.out,by rw[HU.out,zi],Ya,H3.out⟩
theorem RatV.store{x:zaI}{bn bd:Option Addr}{m1 m2:Nat}(hN:zV w g)(h1:x.num.length<=m1)(h2:x.den.length<=m2)(k5:zt w bn x.num)(k6:zt w bd x.den):
  RatV (((w.setCell ⟨g,0,none⟩ (.bool x.neg)).setCell ⟨g,1,none⟩ (.slice bn x.num.length m1)).setCell ⟨g,2,none⟩ (.slice bd x.den.length m2)) (.agg #[.bool x.neg,.slice bn x.num.length m1,.slice bd x.den.length m2]) x:=by
 refine⟨bn,bd,m1,m2,rfl,h1,h2,?_,?_⟩
 ·exact((k5.setCell hN _ _).setCell (hN.setCell _ _ Yd) _ _).setCell ((hN.setCell _ _ Yd).setCell _ _ Yd) _ _
 ·exact((k6.setCell hN _ _).setCell (hN.setCell _ _ Yd) _ _).setCell ((hN.setCell _ _ Yd).setCell _ _ Yd) _ _
theorem zS(h:Below n w w')(hg:n<=g)(p q r:Value):Below n w (((w'.setCell ⟨g,0,none⟩ p).setCell ⟨g,1,none⟩ q).setCell ⟨g,2,none⟩ r):=
 ((h.setCell (p:=⟨g,0,none⟩) hg p).setCell (p:=⟨g,1,none⟩) hg q).setCell (p:=⟨g,2,none⟩) hg r
theorem zdV:ze 1=[1]:=by rw[zc8 Ya,zr]
theorem zkB{a b:Option Addr}(neg:Bool)(c e:Nat)(hc:l.length<=c)(he:m.length<=e)(h:zt w a l)(g:zt w b m){d:Nat}(hx:zo l=n)(hy:zo m=d)(hr:l.length<=2097152)(hr2:m.length<=2097152)(hd:0<d):
  Calls Tryz.prog 74 #[.bool neg,.slice a l.length c,.slice b m.length e] w (zey w (zbD neg n d)):=by
 have hR:=zbn.alloc w (.bool false) (.slice none 0 0) (.slice none 0 0) 51;have hN:=zV.alloc w #[.bool false,.slice none 0 0,.slice none 0 0] 51 Yd;have hB0:=blA w (zeP 51);have HG:=hid (zsl c e hc he (h.below hB0) (g.below hB0) hx hy hr hr2);have hgp:0<Nat.gcd n d:=Nat.gcd_pos_of_pos_right n hd;have hgl:(ze (Nat.gcd n d)).length<=m.length:=by
  refine Zl (zaD (Nat.gcd_le_right n hd)) ?_
  rw[<- hy];exact zz g.lim
 have hD1:=fun wv (hu:zt wv a l) a1 c1 hc1 (hg:zt wv a1 (ze (Nat.gcd n d)))=>zh6 c c1 hc hc1 hu hg hx (zi _) hr Ya hgp
 have hD2:=fun wv (hu:zt wv b m) a1 c1 hc1 (hg:zt wv a1 (ze (Nat.gcd n d)))=>zh6 e c1 he hc1 hu hg hy (zi _) hr2 Ya hgp
 obtain⟨HD1,HD2,HR,HN,HB0,HH⟩:=hd6 hD1 hD2 hR hN hB0 (h.below hB0);have HGG:=hid (g.below hB0);have HQ:Hid (zbD neg n d=⟨neg && decide (0<(ze (n/Nat.gcd n d)).length),ze (n/Nat.gcd n d),if d/Nat.gcd n d=1 then[]else ze (d/Nat.gcd n d)⟩):=by
  unfold Hid zbD
  congr 2
  rw[decide_eq_decide,zaj];obtain⟨k,hk⟩:=Nat.gcd_dvd_left n d;generalize Nat.gcd n d=G at *;subst hk;rw[Nat.mul_div_cancel_left _ hgp]
  constructor
  ·intro h;exact Zak (fun e=>h (by rw[e,Nat.mul_zero]))
  ·intro h e
   rcases Nat.mul_eq_zero.1 e with h1|h1<;>omega
 have hdp:0<d/Nat.gcd n d:=Nat.div_pos (Nat.gcd_le_right n hd) hgp;clear h g hx hy hR hN hB0 hD1 hD2 hd;generalize Nat.gcd n d=G at *
 go_enter Tryz.func74,Tryz.ntmps74
 go_wp2_with fail
 refine HG.out.mono ?_
 rintro ee w1 ⟨a1,c1,rfl,h1,h2,hb1⟩;obtain⟨D1,HG1,H2,HR1,HN1⟩:=hd5 (HD1.out w1 (HH.out.below hb1) a1 c1 h1 h2) (HGG.out.below hb1) h2 (HR.out.below hb1) (HN.out.below hb1 HR.out.lt);have HB1:=htr HB0 hb1;clear HG HH HGG h2 HR HN HB0 hb1 HD1
 go_wp2_with fail
 refine D1.out.mono ?_
 rintro ee w2 ⟨a2,c2,a2',c2',rfl,k1,k2,k3,k4,hb2⟩;obtain⟨D2,K3,HR2,HN2⟩:=hd4 (HD2.out w2 (HG1.out.below hb2) a1 c1 h1 (H2.out.below hb2)) k3 (HR1.out.below hb2) (HN1.out.below hb2 HR1.out.lt);have HB2:=htr HB1 hb2;clear D1 HG1 H2 HR1 HN1 HB1 k3 k4 hb2 HD2
 go_wp2_with fail
 refine D2.out.mono ?_
 rintro ee w3 ⟨a3,c3,a3',c3',rfl,j1,j2,j3,j4,hb3⟩;obtain⟨K3',J3⟩:=hd2 (K3.out.below hb3) j3;obtain⟨r0,r1,r2,rf,rlt⟩:=HR2.out.below hb3;have HN3:=hid (HN2.out.below hb3 HR2.out.lt);have HB3:=htr HB2 hb3;have hj:=hid j3;clear D2 K3 HR2 HN2 HB2 j4 hb3;generalize ze (n/G)=L at *;have hneg:∀B:Bool,B=(neg && decide (0<L.length))->True:=fun _ _=>trivial
 clear hneg
 by_cases h1:d/G=1
 ·have HQ1:=hid (HQ.out);rw[Zq h1]at HQ1;have hl1:(ze (d/G)).length=1:=by rw[h1,zdV];rfl
  obtain⟨p1,o1,rfl,hp1,q1⟩:=j3.pick (show 0<(ze (d/G)).length from Ya);have hdg:dig (ze (d/G)) 0=1:=by rw[h1,zdV];rfl
  rw[hdg,ZW]at q1;have hbe:∀B:Bool,Below w.heap.size w (((w3.setCell ⟨w.heap.size,0,none⟩ (.bool B)).setCell ⟨w.heap.size,1,none⟩ (.slice a2 L.length c2)).setCell ⟨w.heap.size,2,none⟩ (.slice none 0 0)):=fun B=>zS HB3.out (Za _) _ _ _
  have hst:=fun B:Bool=>RatV.store (x:=⟨B,L,[]⟩) (bd:=none) (m2:=0) HN3.out k1 (Za _) K3'.out (zt.nil _ _)
  obtain⟨HBE,HST⟩:=hd2 hbe hst;rw[hl1]at j1⊢;clear hl1 hdg h1 j3 hbe hst;cases hL:decide (0<L.length)
  ·cases neg <;>
   ·exact EG
  ·cases neg
   ·exact EG
   ·go_wp2;exact Zr (v:=.agg #[.bool true,.slice a2 L.length c2,.slice none 0 0]) Yo rfl ⟨_,rfl,V0,HBE.out true⟩
 ·have HQ1:=hid (HQ.out);rw[Zh h1]at HQ1;have hbe:∀B:Bool,Below w.heap.size w (((w3.setCell ⟨w.heap.size,0,none⟩ (.bool B)).setCell ⟨w.heap.size,1,none⟩ (.slice a2 L.length c2)).setCell ⟨w.heap.size,2,none⟩ (.slice a3 (ze (d/G)).length c3)):=fun B=>zS HB3.out (Za _) _ _ _
  have hst:=fun B:Bool=>RatV.store (x:=⟨B,L,ze (d/G)⟩) HN3.out k1 j1 K3'.out J3.out
  obtain⟨HBE,HST⟩:=hd2 hbe hst
  by_cases hl1:(ze (d/G)).length=1
  ·obtain⟨p1,o1,rfl,hp1,q1⟩:=j3.pick (show 0<(ze (d/G)).length from Ya);have hd1:=zhq hl1;have hne:((dig (ze (d/G)) 0:Int)==1)=false:=bn0 Ya;rw[ZW]at q1;generalize dig (ze (d/G)) 0=dg at *;clear h1 j3 hbe hst hd1 hdp;generalize hLd:ze (d/G)=LD at *;have hst1:=HST.out;have hbe1:=HBE.out;simp only[hl1]at hst1 hbe1;obtain⟨HST1,HBE1⟩:=hd2 hst1 hbe1;rw[hl1]at j1⊢;clear hLd hl1 hst1 hbe1;cases hL:decide (0<L.length)
   ·cases neg <;>
    ·exact Ex
   ·cases neg
    ·exact Ex
    ·go_wp2;exact Zr (v:=.agg #[.bool true,.slice a2 L.length c2,.slice (some ⟨p1,o1,none⟩) 1 c3]) Yo rfl ⟨_,rfl,by rw[HQ1.out,hL];exact HST1.out true,HBE1.out true⟩
  ·have hne:(((ze (d/G)).length:Int)==1)=false:=bn0 Ya;clear h1 j3 hbe hst hdp hl1;cases hL:decide (0<L.length)
   ·cases neg <;>
    ·exact Ey
   ·cases neg
    ·exact Ey
    ·go_wp2;exact Zr (v:=.agg #[.bool true,.slice a2 L.length c2,.slice a3 (ze (d/G)).length c3]) Yo rfl ⟨_,rfl,V0,HBE.out true⟩
theorem zjX{w:World}{v:Value}{x:zaI}(h:RatV w v x)(hr:zaf x 1048576):Calls Tryz.prog 45 #[v] w (zey w (za0 x)):=by
 obtain⟨an,ad,cn,cd,hv,h2,h3,h4,h5⟩:=h.ex;obtain⟨hr1,hr2⟩:=hr;have hl1:=h4.len;have hl2:=h5.len;obtain⟨H4,H5⟩:=hd2 h4 h5;rw[hv];clear h h4 h5 hv
 go_enter Tryz.func45,Tryz.ntmps45
 go_wp2_with fail
 have hB0:Below w.heap.size w ((w.alloc (zcB x an cn ad cd 51)).alloc (zeP 51)):=
  ((Zg _ _).alloc (Za _) _).alloc Yd _
 have hX:zbn ((w.alloc (zcB x an cn ad cd 51)).alloc (zeP 51)) w.heap.size (.bool x.neg) (.slice an x.num.length cn) (.slice ad x.den.length cd):=
  (zbn.alloc w _ _ _ _).below ((Zg _ _).alloc (Za _) _)
 have hR:zbn ((w.alloc (zcB x an cn ad cd 51)).alloc (zeP 51)) (w.heap.size+1) (.bool false) (.slice none 0 0) (.slice none 0 0):=EO;have hN:zV ((w.alloc (zcB x an cn ad cd 51)).alloc (zeP 51)) (w.heap.size+1):=EM;generalize(w.alloc (zcB x an cn ad cd 51)).alloc (zeP 51)=W at *;obtain⟨H52,H42⟩:=hd2 (H5.out.below hB0) (H4.out.below hB0);obtain⟨x0,x1,x2,xf,xlt⟩:=hX;obtain⟨HR,HNo,HB⟩:=hd3 hR hN hB0;have xbl:Below W.heap.size W W.drew:=(Zg _ _).drew;clear hR hN hB0 xf H5 H4
 go_region_held3 (fun w'=>w'.cell? ⟨w.heap.size,0,none⟩=some (.bool x.neg)/\w'.cell? ⟨w.heap.size,1,none⟩=some (.slice an x.num.length cn)/\w'.cell? ⟨w.heap.size,2,none⟩=some (.slice ad x.den.length cd))
  (first|exact zj0 x0 x1 x2 xlt ‹Below W.heap.size W _› | go_keep)
  (first
   | (go_at_call 75; have hS := ‹Below W.heap.size W _›; refine (zjo cd h3 (H52.out.below hS) Ya).mono ?_; rintro e w1 ⟨a1, c1, l1, rfl, g1, g2, g3, g4, g5⟩
      have hS1:=hS.trans (g5.mono hS.size))
   | (go_at_call 74; have hS := ‹Below W.heap.size W _›; refine (zkB x.neg cn c1 h2 g1 (H42.out.below hS) g2 rfl g3 Ya Ya (z6 _)).mono ?_
      rintro e w2 ⟨v2,rfl,⟨bn,bd,m1,m2,rfl,k3,k4,k5,k6⟩,k2⟩;have hS2:=hS.trans (k2.mono hS.size);obtain⟨r0,r1,r2,rf,rlt⟩:=HR.out.below hS2;obtain⟨hN2,K5,K6⟩:=hd3 (HNo.out.below hS2 HR.out.lt) k5 k6;have hB2:=htr HB hS2))
 go_wp2;exact Zr (v:=.agg #[.bool (za0 x).neg,.slice bn (za0 x).num.length m1,.slice bd (za0 x).den.length m2]) (by simp[results,Tryz.results45,go_sem,r0,r1,r2,za0]) rfl ⟨_,rfl,RatV.store hN2.out k3 k4 K5.out K6.out,zS hB2.out (Zab _) _ _ _⟩
structure zmm (w W:World) (g:Nat) (p q r s t u:Value):Prop where
 a:zbn W g p q r
 b:zbn W (g+1) s t u
 c:zbn W (g+1+1) (.bool false) (.slice none 0 0) (.slice none 0 0)
 nc:zV W (g+1+1)
 bl:Below g w W
theorem zmm.mk'(w:World)(p q r s t u:Value)(T:Nat):zmm w (((w.alloc (.cells #[p,q,r] T)).alloc (.cells #[s,t,u] T)).alloc (.cells #[.bool false,.slice none 0 0,.slice none 0 0] T)) w.heap.size p q r s t u:=by
 have step:∀(W:World) (o:Obj),Below W.heap.size W (W.alloc o):=fun W o=>(Zg _ _).alloc (Za _) _
 have s1:=step w (.cells #[p,q,r] T);have s2:=step (w.alloc (.cells #[p,q,r] T)) (.cells #[s,t,u] T);have s3:=step ((w.alloc (.cells #[p,q,r] T)).alloc (.cells #[s,t,u] T)) (.cells #[.bool false,.slice none 0 0,.slice none 0 0] T);have b1:=zbn.alloc w p q r T;have b2:=zbn.alloc (w.alloc (.cells #[p,q,r] T)) s t u T;have b3:=zbn.alloc ((w.alloc (.cells #[p,q,r] T)).alloc (.cells #[s,t,u] T)) (.bool false) (.slice none 0 0) (.slice none 0 0) T;have n3:=zV.alloc ((w.alloc (.cells #[p,q,r] T)).alloc (.cells #[s,t,u] T)) #[.bool false,.slice none 0 0,.slice none 0 0] T Yd;exact Tj
theorem zrG{w:World}{v u:Value}{x y:zaI}(hv:RatV w v x)(hu:RatV w u y)(hx:zaf x 1048575)(hy:zaf y 1048575):
  Calls Tryz.prog 80 #[v,u] w (zey w (zh (zbc x*zbc y))):=by
 obtain⟨an,ad,cn,cd,rfl,a2,a3,a4,a5⟩:=hv.ex;obtain⟨bn,bd,dn,dd,rfl,b2,b3,b4,b5⟩:=hu.ex;have hQ:Hid (zh (zbc x*zbc y)=zbD (x.neg != y.neg) (zo x.num*zo y.num) (zw x.den*zw y.den)):=Is;obtain⟨hx1,hx2⟩:=hx;obtain⟨hy1,hy2⟩:=hy;have hl1:=a4.len;have hl2:=a5.len;have hl3:=b4.len;have hl4:=b5.len;obtain⟨A4,A5,B4,B5⟩:=hd4 a4 a5 b4 b5;have hml:(ze (zo x.num*zo y.num)).length<=2097152:=Zl (zdn rfl rfl hx1 hy1 a4.lim b4.lim) Ya;have hdp:0<zw x.den*zw y.den:=Zaw (z6 _) (z6 _);have HDp:=hid hdp;clear hv hu a4 a5 b4 b5 hdp
 go_enter Tryz.func80,Tryz.ntmps80
 go_wp2_with fail
 have hF:=zmm.mk' w (.bool x.neg) (.slice an x.num.length cn) (.slice ad x.den.length cd) (.bool y.neg) (.slice bn y.num.length dn) (.slice bd y.den.length dd) 51;generalize((w.alloc (zcB x an cn ad cd 51)).alloc (zcB y bn dn bd dd 51)).alloc (zeP 51)=W at *;obtain⟨HF,HA4,HA5,HB4,HB5⟩:=hd5 hF (A4.out.below hF.bl) (A5.out.below hF.bl) (B4.out.below hF.bl) (B5.out.below hF.bl);have xbl:Below W.heap.size W W.drew:=(Zg _ _).drew;have tok1:True:=trivial;have tok2:True:=trivial;clear hF A4 A5 B4 B5
 go_region_held3 (fun w'=>w'.cell? ⟨w.heap.size,0,none⟩=some (.bool x.neg)/\w'.cell? ⟨w.heap.size,1,none⟩=some (.slice an x.num.length cn)/\w'.cell? ⟨w.heap.size,2,none⟩=some (.slice ad x.den.length cd)/\
   w'.cell? ⟨w.heap.size+1,0,none⟩=some (.bool y.neg)/\w'.cell? ⟨w.heap.size+1,1,none⟩=some (.slice bn y.num.length dn)/\w'.cell? ⟨w.heap.size+1,2,none⟩=some (.slice bd y.den.length dd))
  (first|exact zbW HF.out.a HF.out.b HF.out.a.lt HF.out.b.lt ‹Below W.heap.size W _› | exact zbW (B:=w.heap.size+1+1) HF.out.a HF.out.b (Nat.lt_succ_of_lt (Zai _)) (Zai _) (zS (hS5.mono (Z6 HF.out.c.lt)) (Za _) _ _ _))
  (first
   | (go_at_call 108; have _t := tok1; clear tok1; have hS := ‹Below W.heap.size W _›; refine (zmv cn dn (HA4.out.below hS) (HB4.out.below hS) rfl rfl Ya).mono ?_; rintro e w1 ⟨a1, c1, rfl, g1, g2, g3, _⟩
      have hS1:=hS.trans (g3.mono hS.size);have G2:=hid g2;clear g2)
   | (go_at_call 75; have _t := tok2; clear tok2; have hS := ‹Below W.heap.size W _›; refine (zjo cd a3 (HA5.out.below hS) Ya).mono ?_; rintro e w2 ⟨a2', c2, l2, rfl, p1, p2, p3, p4, p5⟩
      have hS2:=hS.trans (p5.mono hS.size);have G2b:=hid (G2.out.below p5);have P2:=hid p2;have P3:=hid p3;clear p2 p3)
   | (go_at_call 75; have hS := ‹Below W.heap.size W _›; refine (zjo dd b3 (HB5.out.below hS) Ya).mono ?_; rintro e w3 ⟨a3', c3, l3, rfl, q1, q2, q3, q4, q5⟩
      have hS3:=hS.trans (q5.mono hS.size);have G2c:=hid (G2b.out.below q5);have P2b:=hid (P2.out.below q5);have Q2:=hid q2;have Q3:=hid q3;clear q2 q3)
   | (go_at_call 108; have hS := ‹Below W.heap.size W _›; refine (zmv c2 c3 P2b.out Q2.out P3.out Q3.out Ya).mono ?_; rintro e w4 ⟨a4, c4, rfl, t1, t2, t3, _⟩
      have hS4:=hS.trans (t3.mono hS.size);have G2d:=hid (G2c.out.below t3);have T2:=hid t2;clear t2;have hdl:(ze (zw x.den*zw y.den)).length<=2097152:=Zl (zdn P3.out Q3.out p4 q4 P2b.out.lim Q2.out.lim) Ya)
   | (go_at_call 74; have hS := ‹Below W.heap.size W _›; refine (zkB (x.neg != y.neg) c1 c4 g1 t1 G2d.out T2.out (zi _) (zi _) hml hdl HDp.out).mono ?_
      rintro e w5 ⟨v5,rfl,⟨bn',bd',m1,m2,rfl,k3,k4,k5,k6⟩,k2⟩;have hS5:=hS.trans (k2.mono hS.size);obtain⟨r0,r1,r2,rf,rlt⟩:=HF.out.c.below hS5;obtain⟨hN5,K5,K6⟩:=hd3 (HF.out.nc.below hS5 HF.out.c.lt) k5 k6;have hB5:=hid (HF.out.bl.trans (hS5.mono Yy))))
 generalize zbD (x.neg != y.neg) (zo x.num*zo y.num) (zw x.den*zw y.den)=R at *;go_wp2;exact Zr (v:=.agg #[.bool R.neg,.slice bn' R.num.length m1,.slice bd' R.den.length m2]) (by simp[results,Tryz.results80,go_sem,r0,r1,r2]) rfl ⟨_,rfl,Kd,zS hB5.out Ya _ _ _⟩
structure zqj (w W:World) (g:Nat) (p q r s:Value):Prop where
 a:za1 W g p q
 b:za1 W (g+1) r s
 c:za1 W (g+1+1) (.bool false) (.slice none 0 0)
 nc:zV W (g+1+1)
 bl:Below g w W
theorem zqj.mk'(w:World)(p q r s:Value)(T:Nat):zqj w (((w.alloc (.cells #[p,q] T)).alloc (.cells #[r,s] T)).alloc (.cells #[.bool false,.slice none 0 0] T)) w.heap.size p q r s:=by
 have step:∀(W:World) (o:Obj),Below W.heap.size W (W.alloc o):=fun W o=>(Zg _ _).alloc (Za _) _
 have s1:=step w (.cells #[p,q] T);have s2:=step (w.alloc (.cells #[p,q] T)) (.cells #[r,s] T);have s3:=step ((w.alloc (.cells #[p,q] T)).alloc (.cells #[r,s] T)) (.cells #[.bool false,.slice none 0 0] T);have b1:=za1.alloc w p q T;have b2:=za1.alloc (w.alloc (.cells #[p,q] T)) r s T;have b3:=za1.alloc ((w.alloc (.cells #[p,q] T)).alloc (.cells #[r,s] T)) (.bool false) (.slice none 0 0) T;have n3:=zV.alloc ((w.alloc (.cells #[p,q] T)).alloc (.cells #[r,s] T)) #[.bool false,.slice none 0 0] T Yd;exact Tj
theorem zau(h:Below n w w')(hg:n<=g)(p q:Value):Below n w ((w'.setCell ⟨g,0,none⟩ p).setCell ⟨g,1,none⟩ q):=
 (h.setCell (p:=⟨g,0,none⟩) hg p).setCell (p:=⟨g,1,none⟩) hg q
theorem zjj.store{a:Option Addr}{c:Nat}(hN:zV w g)(h1:(ze z.natAbs).length<=c)(k:zt w a (ze z.natAbs)):
  zjj ((w.setCell ⟨g,0,none⟩ (.bool (decide (z<0)))).setCell ⟨g,1,none⟩ (.slice a (ze z.natAbs).length c)) (.agg #[.bool (decide (z<0)),.slice a (ze z.natAbs).length c]) z:=
 ⟨a,c,rfl,h1,(k.setCell hN _ _).setCell (hN.setCell _ _ Yd) _ _⟩
theorem zjp{N:Nat}(hl:Lim l)(hm:Lim m)(h1:l.length<=N)(h2:m.length<=N):(ze (zo l+zo m)).length<=N+1:=by
 refine zaC ?_
 have e1:=Zd (zcP hl) (ZE (show 0<4294967296 from Ya) h1);have e2:=Zd (zcP hm) (ZE (show 0<4294967296 from Ya) h2);rw[ZaQ];omega
theorem zfy(b:Bool)(x y:Nat):sgn b (x+y)=sgn b x+sgn b y:=by cases b<;>simp[sgn]<;>omega
theorem zg1{a b:Bool}(h:a≠b)(hxy:y<=x):sgn a (x-y)=sgn a x+sgn b y:=by
 cases a<;>cases b<;>simp[sgn]at h⊢ <;> omega
theorem zg6{a b:Bool}(h:a≠b)(hxy:x<y):sgn b (y-x)=sgn a x+sgn b y:=by
 cases a<;>cases b<;>simp[sgn]at h⊢ <;> omega
theorem zlF{w:World}{v u:Value}{n1:Bool}{x y k1 k2:Nat}(hv:zcE w v n1 x k1)(hu:zcE w u n1 y k2)(hr1:k1<=4194304)(hr2:k2<=4194304):
  Calls Tryz.prog 109 #[v,u] w (zrl w (sgn n1 x+sgn n1 y)):=by
 obtain⟨a,c,l,rfl,h1,h2,h3,h4⟩:=hv.ex;obtain⟨b,d,m,rfl,g1,g2,g3,g4⟩:=hu.ex;have hl1:=h2.len;have hl2:=g2.len;obtain⟨H2,G2,H3,G3⟩:=hd4 h2 g2 h3 g3;have hsl:(ze (x+y)).length<=4194305:=by rw[<- h3,<- g3];exact zjp h2.lim g2.lim Ya Ya
 rw[<- zfy];clear hv hu h2 g2 h3 g3
 go_enter Tryz.func109,Tryz.ntmps109
 have hF:=zqj.mk' w (.bool n1) (.slice a l.length c) (.bool n1) (.slice b m.length d) 89;go_wp2;generalize((w.alloc (.cells #[.bool n1,.slice a l.length c] 89)).alloc (.cells #[.bool n1,.slice b m.length d] 89)).alloc (.cells #[.bool false,.slice none 0 0] 89)=W at *;obtain⟨HF,HH2,HG2⟩:=hd3 hF (H2.out.below hF.bl) (G2.out.below hF.bl);have xbl:Below W.heap.size W W.drew:=(Zg _ _).drew;clear hF H2 G2
 go_region_held3 (fun w'=>w'.cell? ⟨w.heap.size,0,none⟩=some (.bool n1)/\w'.cell? ⟨w.heap.size,1,none⟩=some (.slice a l.length c)/\w'.cell? ⟨w.heap.size+1,0,none⟩=some (.bool n1)/\w'.cell? ⟨w.heap.size+1,1,none⟩=some (.slice b m.length d))
  (first|exact zfV HF.out.a HF.out.b ‹Below W.heap.size W _› | exact zge HF.out.a HF.out.b ‹Below W.heap.size W _› _ _)
  (first
   | (go_at_call 144; have hS := ‹Below W.heap.size W _›; refine (zrQ c d (HH2.out.below hS) (HG2.out.below hS) H3.out G3.out Ya Ya).mono ?_; rintro e w1 ⟨a1, c1, rfl, p1, p2, p3, _⟩
      have hS1:=hS.trans (p3.mono hS.size))
   | (go_at_call 76; have hS := ‹Below W.heap.size W _›; refine (zg3 n1 c1 p1 p2 (zi _) Ya).mono ?_
      rintro e w2 ⟨v2,rfl,⟨a3,c3,rfl,q1,q2⟩,q5⟩;have hS2:=hS.trans (q5.mono hS.size);obtain⟨r0,r1,rf,rlt⟩:=HF.out.c.below hS2;obtain⟨hN2,Q2⟩:=hd2 (HF.out.nc.below hS2 HF.out.c.lt) q2;have hB2:=hid (HF.out.bl.trans (hS2.mono Yy))))
 obtain⟨HI,HBf⟩:=hd2 (zjj.store hN2.out q1 Q2.out) (zau (p:=.bool (decide (sgn n1 (x+y)<0))) (q:=.slice a3 (ze (sgn n1 (x+y)).natAbs).length c3) hB2.out (show w.heap.size<=w.heap.size+1+1 from Ya));generalize decide (sgn n1 (x+y)<0)=B at *;generalize(ze (sgn n1 (x+y)).natAbs).length=L at *;go_wp2;exact Zr (v:=.agg #[.bool B,.slice a3 L c3]) (by simp[results,Tryz.results109,go_sem,r0,r1]) rfl ⟨_,rfl,HI.out,HBf.out⟩
theorem zlr{v:Value}(hv:zcE w v n1 x k1)(hu:zcE w u n2 y k2)(hn:n1≠n2)(hr1:k1<=4194304)(hr2:k2<=4194304):
  Calls Tryz.prog 109 #[v,u] w (zrl w (sgn n1 x+sgn n2 y)):=by
 obtain⟨a,c,l,rfl,h1,h2,h3,h4⟩:=hv.ex;obtain⟨b,d,m,rfl,g1,g2,g3,g4⟩:=hu.ex;have hl1:=h2.len;have hl2:=g2.len;obtain⟨H2,G2,H3,G3⟩:=hd4 h2 g2 h3 g3;have hne:(n1==n2)=false:=by simpa using hn
 have HN:=hid hn;have hlx:(ze x).length<=4194304:=by have:=zz h2.lim;rw[h3]at this;omega
 have hly:(ze y).length<=4194304:=by have:=zz g2.lim;rw[g3]at this;omega
 clear hv hu h2 g2 h3 g3 hn
 go_enter Tryz.func109,Tryz.ntmps109
 have hF:=zqj.mk' w (.bool n1) (.slice a l.length c) (.bool n2) (.slice b m.length d) 89
 go_wp2_with fail
 generalize((w.alloc (.cells #[.bool n1,.slice a l.length c] 89)).alloc (.cells #[.bool n2,.slice b m.length d] 89)).alloc (.cells #[.bool false,.slice none 0 0] 89)=W at *;obtain⟨HF,HH2,HG2⟩:=hd3 hF (H2.out.below hF.bl) (G2.out.below hF.bl);have HS1:=hid (zqf c d HH2.out HG2.out H3.out G3.out Ya Ya);clear hF H2 G2 hne
 refine HS1.out.mono ?_
 rintro e w1 (⟨hlt,rfl,hb1⟩|⟨hge,hb1,a1,c1,rfl,p1,p2,_⟩)
 ·obtain⟨r0,r1,rf,rlt⟩:=HF.out.a.below hb1;obtain⟨s0,s1,sf,slt⟩:=HF.out.b.below hb1;obtain⟨HB1,HS2⟩:=hd2 hb1 (zqf d c (HG2.out.below hb1) (HH2.out.below hb1) G3.out H3.out Ya Ya);clear hb1 HS1 rf sf
  go_wp2_with fail
  refine HS2.out.mono ?_
  rintro e w2 (⟨hlt2,_⟩|⟨hge,hb2,a1,c1,rfl,p1,p2,_⟩)
  ·omega
  obtain⟨r0',r1',rf,rlt'⟩:=HF.out.a.below (HB1.out.trans (hb2.mono HB1.out.size));obtain⟨s0',s1',sf,slt'⟩:=HF.out.b.below (HB1.out.trans (hb2.mono HB1.out.size));have HB2:=htr HB1 hb2;have hM:=zg3 n2 c1 p1 p2 (zi _) Ja;rw[zg6 HN.out hlt]at hM;have HM:=hid hM;clear hM hb2 HS2 p2 HB1 r0 r1 s0 s1 rlt slt rf sf;exact UI
 ·obtain⟨r0,r1,rf,rlt⟩:=HF.out.a.below hb1;obtain⟨s0,s1,sf,slt⟩:=HF.out.b.below hb1;have HB2:=hid hb1;have hM:=zg3 n1 c1 p1 p2 (zi _) Jb;rw[zg1 HN.out hge]at hM;have HM:=hid hM;clear hM hb1 HS1 p2 rf sf;exact UI
theorem zso{v:Value}(hv:zcE w v n1 x k1)(hu:zcE w u n2 y k2)(hr1:k1<=4194304)(hr2:k2<=4194304):
  Calls Tryz.prog 109 #[v,u] w (zrl w (sgn n1 x+sgn n2 y)):=by
 by_cases hn:n1=n2
 ·subst hn;exact zlF hv hu hr1 hr2
 ·exact zlr hv hu hn hr1 hr2
structure Fro (B:Nat) (W0 w:World):Prop where
 base:B<=w.heap.size
 be:Below B W0 w
theorem Fro.start{W0:World}(h:B<=W0.heap.size):Fro B W0 W0.drew:=⟨h,(Zg _ _).drew⟩
theorem Fro.alloc{B:Nat}{W0 w:World}(h:Fro B W0 w)(o:Obj):Fro B W0 (w.alloc o):=⟨by have:=h.base;simp;omega,h.be.alloc h.base o⟩
def prG(ga gb:Nat)(neg:Bool)(vn vd:Value)(N dn kd B:Nat)(i:Nat)(v:Value)(w:World):Prop:=
 match i with
 | 0=>v=.pointer (some ⟨ga,0,none⟩)
 | 1=>v=.bool neg
 | 2=>v=.pointer (some ⟨ga,1,none⟩)
 | 3=>v=vn
 | 4=>v=.pointer (some ⟨gb,2,none⟩)
 | 5=>v=vd
 | 6=>∃a c l,v=.slice a l.length c/\l.length<=c/\Hid (zt w a l)/\Hid (zo l=dn)/\l.length<=kd
 | 7=>∃a c,v=.slice a (ze N).length c/\(ze N).length<=c/\Hid (zt w a (ze N))
 | 8=>∃a c,v=.agg #[.bool neg,.slice a (ze N).length c]/\(ze N).length<=c/\Hid (zt w a (ze N))
 | 9=>∃g,B<=g/\v=.pointer (some ⟨g,0,none⟩)/\za1 w g (.bool false) (.slice none 0 0)/\zV w g
 | _=>True
theorem ziO{ga gb:Nat}{neg:Bool}{vn vd:Value}{N dn kd B i:Nat}{v:Value}{w w':World}(h:prG ga gb neg vn vd N dn kd B i v w)(hb:Below w.heap.size w w'):prG ga gb neg vn vd N dn kd B i v w':=by
 match i,h with
 | 0,h=>exact h
 | 1,h=>exact h
 | 2,h=>exact h
 | 3,h=>exact h
 | 4,h=>exact h
 | 5,h=>exact h
 | 6,⟨a,c,l,h1,h2,h3,h4,h5⟩=>exact⟨a,c,l,h1,h2,h3.out.below hb,h4,h5⟩
 | 7,⟨a,c,h1,h2,h3⟩=>exact⟨a,c,h1,h2,h3.out.below hb⟩
 | 8,⟨a,c,h1,h2,h3⟩=>exact⟨a,c,h1,h2,h3.out.below hb⟩
 | 9,⟨g,h1,h2,h3,h4⟩=>exact⟨g,h1,h2,h3.below hb,h4.below hb h3.lt⟩
 | _+10,_=>trivial
theorem zmm.below(h:zmm w W g p q r s t u)(hb:Below W.heap.size W W'):zmm w W' g p q r s t u:=
 ⟨h.a.below hb,h.b.below hb,h.c.below hb,h.nc.below hb h.c.lt,h.bl.trans (hb.mono (by have:=h.a.lt;omega))⟩
theorem za1.store(h:za1 w g p q)(p' q':Value):za1 ((w.setCell ⟨g,0,none⟩ p').setCell ⟨g,1,none⟩ q') g p' q':=by
 refine⟨?_,?_,?_,?_⟩
 ·exact It
 ·refine ZU _ _ _ (u:=q) ?_
  rw[ZC _ _ _ _ Yr];exact h.c1
 ·intro o;simp[Zam,h.free]
 ·simpa using h.lt
theorem zt.store2{a:Option Addr}(h:zt w a l)(hN:zV w g)(b:Bool)(x:Option Addr)(n c:Nat):zt ((w.setCell ⟨g,0,none⟩ (.bool b)).setCell ⟨g,1,none⟩ (.slice x n c)) a l:=
 (h.setCell hN _ _).setCell (hN.setCell _ _ Yd) _ _
theorem ze6(z:Int):sgn (decide (z<0)) z.natAbs=z:=by
 unfold sgn
 by_cases h:z<0
 ·rw[Zk h];simp;omega
 ·rw[Zo h];simp;omega
theorem zkK(d:List Nat)(h:Lim d):(ze (zw d)).length<=d.length+1:=by
 unfold zw
 split
 ·rw[zdV];simp
 ·have:=zz h;omega
theorem zmE{a b c f:Value}(h:za1 W gs p q)(hF:zmm w W g a b c d e f)(hb:Below W.heap.size W w1):
  w1.cell? ⟨gs,0,none⟩=some p/\w1.cell? ⟨gs,1,none⟩=some q/\w1.cell? ⟨g,2,none⟩=some c/\w1.cell? ⟨g+1,2,none⟩=some f:=
 ⟨(hb.cell h.lt).trans h.c0,(hb.cell h.lt).trans h.c1,(hb.cell hF.a.lt).trans hF.a.c2,(hb.cell hF.b.lt).trans hF.b.c2⟩
theorem zoU{a b c f:Value}(h:za1 W gs p q)(hF:zmm w W g a b c d e f)(hb:Below W.heap.size W w1)(hne:g+1+1<gs)(x y z:Value):
  (((w1.setCell ⟨g+1+1,0,none⟩ x).setCell ⟨g+1+1,1,none⟩ y).setCell ⟨g+1+1,2,none⟩ z).cell? ⟨gs,0,none⟩=some p/\(((w1.setCell ⟨g+1+1,0,none⟩ x).setCell ⟨g+1+1,1,none⟩ y).setCell ⟨g+1+1,2,none⟩ z).cell? ⟨gs,1,none⟩=some q/\
  (((w1.setCell ⟨g+1+1,0,none⟩ x).setCell ⟨g+1+1,1,none⟩ y).setCell ⟨g+1+1,2,none⟩ z).cell? ⟨g,2,none⟩=some c/\(((w1.setCell ⟨g+1+1,0,none⟩ x).setCell ⟨g+1+1,1,none⟩ y).setCell ⟨g+1+1,2,none⟩ z).cell? ⟨g+1,2,none⟩=some f:=by
 obtain⟨h1,h2,h3,h4⟩:=zmE h hF hb
 refine⟨?_,?_,?_,?_⟩<;>rw[zfu Ya,zfu Ya,zfu Ya]<;>assumption
theorem zrO{w:World}{v u:Value}{x y:zaI}(hv:RatV w v x)(hu:RatV w u y)(hx:zaf x 524286)(hy:zaf y 524286):
  Calls Tryz.prog 78 #[v,u] w (zey w (zh (zbc x+zbc y))):=by
 obtain⟨an,ad,cn,cd,rfl,a2,a3,a4,a5⟩:=hv.ex;obtain⟨bn,bd,dn,dd,rfl,b2,b3,b4,b5⟩:=hu.ex;obtain⟨hx1,hx2⟩:=hx;obtain⟨hy1,hy2⟩:=hy;have hl1:=a4.len;have hl2:=a5.len;have hl3:=b4.len;have hl4:=b5.len;obtain⟨A4,A5,B4,B5,HNUMx,HDENx⟩:=hd6 a4 a5 b4 b5 a4.lim a5.lim;obtain⟨HNUMy,HDENy⟩:=hd2 b4.lim b5.lim;clear hv hu a4 a5 b4 b5
 go_enter Tryz.func78,Tryz.ntmps78
 go_upto_region 1 with fail
 have hF:=zmm.mk' w (.bool x.neg) (.slice an x.num.length cn) (.slice ad x.den.length cd) (.bool y.neg) (.slice bn y.num.length dn) (.slice bd y.den.length dd) 51;generalize((w.alloc (zcB x an cn ad cd 51)).alloc (zcB y bn dn bd dd 51)).alloc (zeP 51)=W at *;obtain⟨HF,HA4,HA5,HB4,HB5⟩:=hd5 hF (A4.out.below hF.bl) (A5.out.below hF.bl) (B4.out.below hF.bl) (B5.out.below hF.bl);clear hF A4 A5 B4 B5
 refine zcw Yc Yc Yc Yc Yc (Fro W.heap.size W) (fun w w'=>Below w.heap.size w w') (prG (w.heap.size) (w.heap.size+1) x.neg (.slice an x.num.length cn) (.slice bd y.den.length dd) (zo x.num*zw y.den) (zw y.den) (y.den.length+1) W.heap.size) (fun i v w w' h hb=>ziO h hb) (Fro.start (Za _)) ?_ ?_
 ·intro ops;simp only[List.dropLast,zbM]
  refine⟨?v0,?v1,?v2,?v3,?v4,?v5,?_,?_,?_,?_,trivial⟩
  all_goals (intro g V hR hL;have hB:=hR.base;obtain⟨q0,q1,q2,q3,q4,q5⟩:=zbW HF.out.a HF.out.b HF.out.a.lt HF.out.b.lt hR.be;simp only[zbd,Region.binds,Zj,Ze,Zi,prG]at hL;simp[zg,Act.put])
  case v0|v1|v2|v3|v4|v5=>
   exact Ut
  ·try simp only[hL]
   clear hL;have HR:=hid hR;clear hR
   go_wp2_with fail
   refine(zjo dd b3 (HB5.out.below HR.out.be) Ya).mono ?_
   exact T6
  ·generalize g 3=y3 at hL⊢;generalize g 6=y6 at hL⊢;obtain⟨rfl,⟨a1,c1,l1,rfl,p1,HP2,HP3,p4⟩,_,_⟩:=hL;have HR:=hid hR;clear hR
   go_wp2_with fail
   refine(zmv cn c1 (HA4.out.below HR.out.be) HP2.out rfl HP3.out Ya).mono ?_
   exact TF
  ·exact TN
  ·exact TK
 intro ops g W1 hR hL;simp only[List.dropLast,List.getLastD_cons,List.getLastD_nil,zg,Act.put,ZJ,ZaK,Nat.reduceAdd,zco]at hL⊢;have hB1:=hR.base;have HV:=hL.1.2;have HP:=hL.2;simp only[prG]at HV HP;clear hL;generalize g 8=yv at HV⊢;generalize g 9=yp at HP⊢;obtain⟨ak1,ck1,rfl,g11,HG21⟩:=HV;obtain⟨gp1,hgp1,rfl,hbx,hno⟩:=HP;obtain⟨HBX1,HNO1⟩:=hd2 hbx hno;obtain⟨e0,e1,ef,elt⟩:=hbx;have HR1:=hid hR;clear hR hno
 go_upto_region 2 with fail
 have hbw:=zau (p:=.bool x.neg) (q:=.slice ak1 (ze (zo x.num*zw y.den)).length ck1) HR1.out.be hgp1;have HBX1':=HBX1.out.store (.bool x.neg) (.slice ak1 (ze (zo x.num*zw y.den)).length ck1);have hu1:=HG21.out.store2 HNO1.out x.neg ak1 (ze (zo x.num*zw y.den)).length ck1;generalize(W1.setCell ⟨gp1,0,none⟩ (.bool x.neg)).setCell ⟨gp1,1,none⟩ (.slice ak1 (ze (zo x.num*zw y.den)).length ck1)=W2 at *;obtain⟨HX2,HU2,HF2,HA52,HB42,HB52⟩:=hd6 HBX1' hu1 (HF.out.below hbw) (HA5.out.below hbw) (HB4.out.below hbw) (HB5.out.below hbw);clear hbw HBX1' hu1 HBX1 HNO1 HR1 HG21 e0 e1 ef elt HA5 HB4 HB5 HA4 HF hgp1 hB1
 refine zcw Yc Yc Yc Yc Yc (Fro W2.heap.size W2) (fun w w'=>Below w.heap.size w w') (prG (w.heap.size+1) (w.heap.size) y.neg (.slice bn y.num.length dn) (.slice ad x.den.length cd) (zo y.num*zw x.den) (zw x.den) (x.den.length+1) W2.heap.size) (fun i v w w' h hb=>ziO h hb) (Fro.start (Za _)) ?_ ?_
 ·intro ops;simp only[List.dropLast,zbM]
  refine⟨?v0,?v1,?v2,?v3,?v4,?v5,?_,?_,?_,?_,trivial⟩
  all_goals (intro g V hR hL;have hB:=hR.base;obtain⟨q0,q1,q2,q3,q4,q5⟩:=zbW HF2.out.a HF2.out.b HF2.out.a.lt HF2.out.b.lt hR.be;simp only[zbd,Region.binds,Zj,Ze,Zi,prG]at hL;simp[zg,Act.put])
  case v0|v1|v2|v3|v4|v5=>
   exact Ut
  ·try simp only[hL]
   clear hL;have HR:=hid hR;clear hR
   go_wp2_with fail
   refine(zjo cd a3 (HA52.out.below HR.out.be) Ya).mono ?_
   exact T6
  ·generalize g 3=y3 at hL⊢;generalize g 6=y6 at hL⊢;obtain⟨rfl,⟨a1,c1,l1,rfl,p1,HP2,HP3,p4⟩,_,_⟩:=hL;have HR:=hid hR;clear hR
   go_wp2_with fail
   refine(zmv dn c1 (HB42.out.below HR.out.be) HP2.out rfl HP3.out Ya).mono ?_
   exact TF
  ·exact TN
  ·exact TK
 intro ops g W3 hR hL;simp only[List.dropLast,List.getLastD_cons,List.getLastD_nil,zg,Act.put,ZJ,ZaK,Nat.reduceAdd,zco]at hL⊢;have hB2:=hR.base;have HV:=hL.1.2;have HP:=hL.2;simp only[prG]at HV HP;clear hL;generalize g 8=yv at HV⊢;generalize g 9=yp at HP⊢;obtain⟨ak2,ck2,rfl,g12,HG22⟩:=HV;obtain⟨gp2,hgp2,rfl,hbx,hno⟩:=HP;obtain⟨HBX2,HNO2⟩:=hd2 hbx hno;obtain⟨e0,e1,ef,elt⟩:=hbx;have HR2:=hid hR;clear hR hno
 go_upto_region 3 with fail
 have hbw:=zau (p:=.bool y.neg) (q:=.slice ak2 (ze (zo y.num*zw x.den)).length ck2) HR2.out.be hgp2;have hb2:=HBX2.out.store (.bool y.neg) (.slice ak2 (ze (zo y.num*zw x.den)).length ck2);have hu2:=HG22.out.store2 HNO2.out y.neg ak2 (ze (zo y.num*zw x.den)).length ck2;generalize(W3.setCell ⟨gp2,0,none⟩ (.bool y.neg)).setCell ⟨gp2,1,none⟩ (.slice ak2 (ze (zo y.num*zw x.den)).length ck2)=W4 at *;obtain⟨x0,x1,_,xlt⟩:=HX2.out.below hbw;obtain⟨y0,y1,_,ylt⟩:=hb2;obtain⟨HF4,HA54,HB54⟩:=hd3 (HF2.out.below hbw) (HA52.out.below hbw) (HB52.out.below hbw);have hi1:zcE W4 (.agg #[.bool x.neg,.slice ak1 (ze (zo x.num*zw y.den)).length ck1]) x.neg (zo x.num*zw y.den) (ze (zo x.num*zw y.den)).length:=⟨ak1,ck1,_,rfl,g11,HU2.out.below hbw,zi _,Za _⟩
 have hi2:zcE W4 (.agg #[.bool y.neg,.slice ak2 (ze (zo y.num*zw x.den)).length ck2]) y.neg (zo y.num*zw x.den) (ze (zo y.num*zw x.den)).length:=⟨ak2,ck2,_,rfl,g12,hu2,zi _,Za _⟩
 have hl1:(ze (zo x.num*zw y.den)).length<=1048575:=Zl (zdn rfl (zi _) (Za _) (Za _) HNUMx.out (zq _)) (by have:=zkK y.den HDENy.out;omega);have hl2:(ze (zo y.num*zw x.den)).length<=1048575:=Zl (zdn rfl (zi _) (Za _) (Za _) HNUMy.out (zq _)) (by have:=zkK x.den HDENx.out;omega);have hAd:=zso hi1 hi2 Ya Ya;have HAd:=hid hAd;have HQ:Hid (zh (zbc x+zbc y)=zbD (decide (sgn x.neg (zo x.num*zw y.den)+sgn y.neg (zo y.num*zw x.den)<0)) (sgn x.neg (zo x.num*zw y.den)+sgn y.neg (zo y.num*zw x.den)).natAbs (zw x.den*zw y.den)):=by
  unfold Hid;rw[zbU _ _ (Zaw (z6 _) (z6 _)),ze6,zsW _ _ _ _ (z6 _) (z6 _)];rfl
 have hlz:(ze (sgn x.neg (zo x.num*zw y.den)+sgn y.neg (zo y.num*zw x.den)).natAbs).length<=1048576:=by
  refine Zl (zaD (b:=zo (ze (zo x.num*zw y.den))+zo (ze (zo y.num*zw x.den))) ?_) (zjp (zq _) (zq _) hl1 hl2)
  rw[zi,zi];generalize zo x.num*zw y.den=p;generalize zo y.num*zw x.den=q;cases x.neg<;>cases y.neg<;>simp[sgn]<;>omega
 generalize sgn x.neg (zo x.num*zw y.den)+sgn y.neg (zo y.num*zw x.den)=z at *;clear hbw hu2 HX2 HU2 HF2 HA52 HB42 HB52 HBX2 HNO2 HR2 HG22 e0 e1 ef elt hi1 hi2 hl1 hl2 hAd hgp2 hB2
 go_wp2_with fail
 refine HAd.out.mono ?_
 rintro e W5 ⟨v5,rfl,⟨a5',c5,rfl,f1,f2⟩,hb5⟩;obtain⟨F2,HF5,HA55,HB55⟩:=hd4 f2 (HF4.out.below hb5) (HA54.out.below hb5) (HB54.out.below hb5);clear f2 hb5 HAd HF4 HA54 HB54 x0 x1 xlt y0 y1 ylt;generalize hzb:decide (z<0)=zb at *;generalize hzn:z.natAbs=zn at *;clear hzb hzn
 go_upto_region 4 with fail
 have hal:=blA W5 (.cells #[.bool zb,.slice a5' (ze zn).length c5] 89);have hbx:=za1.alloc W5 (.bool zb) (.slice a5' (ze zn).length c5) 89;have HGS:=hid (HF5.out.c.lt);generalize hgs:W5.heap.size=gs at *;have hgs5:W5.heap.size<=gs:=Ya;generalize W5.alloc (.cells #[.bool zb,.slice a5' (ze zn).length c5] 89)=W6 at *;rw[<- hgs]at hal;obtain⟨HF6,HA56,HB56,F26,HS6⟩:=hd5 (HF5.out.below hal) (HA55.out.below hal) (HB55.out.below hal) (F2.out.below hal) hbx;have xbl:Below W6.heap.size W6 W6.drew:=(Zg _ _).drew;have tok2:True:=trivial;have HDp:=hid (Zaw (z6 x.den) (z6 y.den));clear hal hbx hgs hgs5 HF5 HA55 HB55 F2
 go_region_held3 (fun w'=>w'.cell? ⟨gs,0,none⟩=some (.bool zb)/\w'.cell? ⟨gs,1,none⟩=some (.slice a5' (ze zn).length c5)/\w'.cell? ⟨w.heap.size,2,none⟩=some (.slice ad x.den.length cd)/\w'.cell? ⟨w.heap.size+1,2,none⟩=some (.slice bd y.den.length dd))
  (first|exact zmE HS6.out HF6.out ‹Below W6.heap.size W6 _› | exact zoU HS6.out HF6.out hS5 HGS.out _ _ _)
  (first
   | (go_at_call 75; have _t := tok2; clear tok2; have hS := ‹Below W6.heap.size W6 _›; refine (zjo cd a3 (HA56.out.below hS) Ya).mono ?_; rintro e w2 ⟨a2', c2, l2, rfl, p1, p2, p3, p4, p5⟩
      have hS2:=hS.trans (p5.mono hS.size);have P2:=hid p2;have P3:=hid p3;clear p2 p3)
   | (go_at_call 75; have hS := ‹Below W6.heap.size W6 _›; refine (zjo dd b3 (HB56.out.below hS) Ya).mono ?_; rintro e w3 ⟨a3', c3, l3, rfl, q1, q2, q3, q4, q5⟩
      have hS3:=hS.trans (q5.mono hS.size);have P2b:=hid (P2.out.below q5);have Q2:=hid q2;have Q3:=hid q3;clear q2 q3)
   | (go_at_call 108; have hS := ‹Below W6.heap.size W6 _›; refine (zmv c2 c3 P2b.out Q2.out P3.out Q3.out Ya).mono ?_; rintro e w4 ⟨a4, c4, rfl, t1, t2, t3, _⟩
      have hS4:=hS.trans (t3.mono hS.size);have T2:=hid t2;clear t2;have hdl:(ze (zw x.den*zw y.den)).length<=2097152:=Zl (zdn P3.out Q3.out p4 q4 P2b.out.lim Q2.out.lim) Ya)
   | (go_at_call 74; have hS := ‹Below W6.heap.size W6 _›; refine (zkB zb c5 c4 f1 t1 (F26.out.below hS) T2.out (zi _) (zi _) Ya hdl HDp.out).mono ?_
      rintro e w5 ⟨v5,rfl,⟨bn',bd',m1,m2,rfl,k3,k4,k5,k6⟩,k2⟩;have hS5:=hS.trans (k2.mono hS.size);obtain⟨r0,r1,r2,rf,rlt⟩:=HF6.out.c.below hS5;obtain⟨hN5,K5,K6⟩:=hd3 (HF6.out.nc.below hS5 HF6.out.c.lt) k5 k6;have hB5:=hid (HF6.out.bl.trans (hS5.mono (by have:=HF6.out.a.lt;omega)))))
 generalize zbD zb zn (zw x.den*zw y.den)=R at *;go_wp2;exact Zr (v:=.agg #[.bool R.neg,.slice bn' R.num.length m1,.slice bd' R.den.length m2]) (by simp[results,Tryz.results78,go_sem,r0,r1,r2]) rfl ⟨_,rfl,by rw[HQ.out];exact RatV.store hN5.out k3 k4 K5.out K6.out,zS hB5.out Ya _ _ _⟩
theorem zq0{v:Value}{x:zaI}(hv:RatV w v x)(hx:x.num.length<=17592186044416):
  Calls Tryz.prog 71 #[v] w fun e w'=>e=.returned (.int .i64 (zic (zbc x)))/\Below w.heap.size w w':=by
 obtain⟨an,ad,cn,cd,rfl,a2,a3,a4,a5⟩:=hv.ex;have hl1:=a4.len;have hb:=blA w (zcB x an cn ad cd 51);have hI:zcE (w.alloc (zcB x an cn ad cd 51)) (.agg #[.bool x.neg,.slice an x.num.length cn]) x.neg (zo x.num) x.num.length:=⟨an,cn,_,rfl,a2,a4.below hb,rfl,Za _⟩
 obtain⟨HS,HZ,HB⟩:=hd3 (zpx hI hx) (zjk x) hb;clear hv a4 a5 hI hb
 go_enter Tryz.func71,Tryz.ntmps71
 go_wp2_with fail
 refine HS.out.mono ?_
 rintro e w1 ⟨rfl,hb1⟩;have HB1:=htr HB hb1;clear HS hb1;go_wp2;go_ret;exact⟨zaH HZ.out,HB1.out⟩
theorem zfk{q:Rat}:(zic q=0) ↔ q=0:=by
 unfold zic
 by_cases h1:q<0
 ·rw[Zq h1];constructor
  ·intro h;omega
  ·intro h;subst h;exact absurd h1 Yb
 ·rw[Zh h1]
  by_cases h2:0<q
  ·rw[Zq h2];constructor
   ·intro h;omega
   ·intro h;subst h;exact absurd h2 Yb
  ·rw[Zh h2];exact⟨fun _=>Rat.le_antisymm (Rat.not_lt.1 h2) (Rat.not_lt.1 h1),fun _=>rfl⟩
def zlC(w:World)(x:zaI)(c:Int)(e:Ending)(w':World):Prop:=∃v,e=.returned (.tuple #[v,.int .i64 c])/\RatV w' v x/\Below w.heap.size w w'
theorem zhY(z:Int):zh (z:Rat)=⟨decide (z<0),ze z.natAbs,[]⟩:=by
 unfold zh;rw[Rat.num_intCast,Rat.den_intCast];rfl
theorem zrV(w:World)(x:Int)(h1: -9223372036854775808<=x)(h2:x<=9223372036854775807):
  Calls Tryz.prog 27 #[.int .i64 x] w (zey w (zh (x:Rat))):=by
 have hR:=zbn.alloc w (.bool false) (.slice none 0 0) (.slice none 0 0) 51;have hN:=zV.alloc w #[.bool false,.slice none 0 0,.slice none 0 0] 51 Yd;have hB0:=blA w (zeP 51);obtain⟨HO,HR,HN,HB,HQ⟩:=hd5 (fun wv=>zr5 wv x h1 h2) hR hN hB0 (zhY x);clear hR hN hB0
 go_enter Tryz.func27,Tryz.ntmps27
 go_wp2_with fail
 refine(HO.out _).mono ?_
 rintro e w1 ⟨v1,rfl,⟨a1,c1,rfl,g1,g2⟩,hb⟩;generalize hzb:decide (x<0)=zb at *;generalize hzn:ze x.natAbs=zn at *;have hal:=blA w1 (.cells #[.bool zb,.slice a1 zn.length c1] 89);obtain⟨r0,r1,r2,rf,rlt⟩:=(HR.out.below hb).below hal;obtain⟨hN2,HB2,G2⟩:=hd3 ((HN.out.below hb HR.out.lt).below hal (HR.out.below hb).lt) (HB.out.trans ((hb.trans (hal.mono hb.size)).mono HB.out.size)) (g2.below hal);clear HO hb hal g2 HR HN HB hzb hzn;go_wp2;exact Zr (v:=.agg #[.bool zb,.slice a1 zn.length c1,.slice none 0 0]) (by simp[results,Tryz.results27,go_sem,r0,r1,r2]) rfl ⟨_,rfl,by rw[HQ.out];exact RatV.store (x:=⟨zb,zn,[]⟩) (bd:=none) (m2:=0) hN2.out g1 (Za _) G2.out (zt.nil _ _),zS HB2.out (Za _) _ _ _⟩
structure zjr (w W:World) (g:Nat) (p q r s:Value):Prop where
 a:za1 W g p q
 b:za1 W (g+1) r s
 c:zbn W (g+1+1) (.bool false) (.slice none 0 0) (.slice none 0 0)
 nc:zV W (g+1+1)
 bl:Below g w W
theorem zjr.mk'(w:World)(p q r s:Value)(T T':Nat):zjr w (((w.alloc (.cells #[p,q] T)).alloc (.cells #[r,s] T)).alloc (.cells #[.bool false,.slice none 0 0,.slice none 0 0] T')) w.heap.size p q r s:=by
 have step:∀(W:World) (o:Obj),Below W.heap.size W (W.alloc o):=fun W o=>(Zg _ _).alloc (Za _) _
 have s1:=step w (.cells #[p,q] T);have s2:=step (w.alloc (.cells #[p,q] T)) (.cells #[r,s] T);have s3:=step ((w.alloc (.cells #[p,q] T)).alloc (.cells #[r,s] T)) (.cells #[.bool false,.slice none 0 0,.slice none 0 0] T');have b1:=za1.alloc w p q T;have b2:=za1.alloc (w.alloc (.cells #[p,q] T)) r s T;have b3:=zbn.alloc ((w.alloc (.cells #[p,q] T)).alloc (.cells #[r,s] T)) (.bool false) (.slice none 0 0) (.slice none 0 0) T';have n3:=zV.alloc ((w.alloc (.cells #[p,q] T)).alloc (.cells #[r,s] T)) #[.bool false,.slice none 0 0,.slice none 0 0] T' Yd;exact Tj
theorem zjr.below'(h:zjr w W g p q r s)(hb:Below W.heap.size W W'):zjr w W' g p q r s:=
 ⟨h.a.below hb,h.b.below hb,h.c.below hb,h.nc.below hb h.c.lt,h.bl.trans (hb.mono (by have:=h.a.lt;omega))⟩
theorem zqQ{v:Value}(hv:zcE w v n1 x k1)(hu:zcE w u n2 y k2)(hy:0<y)(hr1:k1<=2097152)(hr2:k2<=2097152):
  Calls Tryz.prog 139 #[v,u] w (zlC w (zh (mkRat (sgn (n1 != n2) x) y)) 0):=by
 have HU:=hid hu;obtain⟨a,c,l,rfl,h1,h2,h3,h4⟩:=hv.ex;obtain⟨b,d,m,rfl,g1,g2,g3,g4⟩:=hu.ex;have hl1:=h2.len;have hl2:=g2.len;obtain⟨HQ,H2,G2,H3,G3,HY⟩:=hd6 (zbU (n1 != n2) x hy) h2 g2 h3 g3 hy;have hz:(zcD n2 y==0)=false:=by
  rw[Z7];unfold zcD;rw[Zh Ya]
  split<;>omega
 clear hv hu h2 g2 h3 g3 hy
 go_enter Tryz.func139,Tryz.ntmps139
 go_wp2_with fail
 have hF:=zjr.mk' w (.bool n1) (.slice a l.length c) (.bool n2) (.slice b m.length d) 89 51;generalize((w.alloc (.cells #[.bool n1,.slice a l.length c] 89)).alloc (.cells #[.bool n2,.slice b m.length d] 89)).alloc (zeP 51)=W0 at *;obtain⟨HS,HF0⟩:=hd2 (zpx (HU.out.below hF.bl) Ya) hF;clear hF
 refine HS.out.mono ?_
 rintro e W ⟨rfl,hbW⟩;have HF:=hid (HF0.out.below' hbW);generalize zcD n2 y=sq at *;clear HS HF0 hbW HU;obtain⟨x0,x1,_,xlt⟩:=HF.out.a;obtain⟨y0,y1,_,ylt⟩:=HF.out.b;have hC:=zkB (n1 != n2) c d h1 g1 (H2.out.below HF.out.bl) (G2.out.below HF.out.bl) H3.out G3.out Ya Ya HY.out;rw[HQ.out]at hC;have HC:=hid hC;clear hC H2 G2
 go_wp2_with fail
 refine HC.out.mono ?_
 rintro e w5 ⟨v5,rfl,⟨bn',bd',m1,m2,rfl,k3,k4,k5,k6⟩,k2⟩;obtain⟨r0,r1,r2,rf,rlt⟩:=HF.out.c.below k2;obtain⟨hN5,K5,K6,hB5⟩:=hd4 (HF.out.nc.below k2 HF.out.c.lt) k5 k6 (HF.out.bl.trans (k2.mono Yy));clear HC k5 k6 k2 x0 x1 xlt y0 y1 ylt hz;generalize zh (mkRat (sgn (n1 != n2) x) y)=R at *;go_wp2;exact Zr (v:=.tuple #[.agg #[.bool R.neg,.slice bn' R.num.length m1,.slice bd' R.den.length m2],.int .i64 0]) (by simp[results,Tryz.results139,go_sem,r0,r1,r2]) rfl ⟨_,rfl,RatV.store hN5.out k3 k4 K5.out K6.out,zS hB5.out Ya _ _ _⟩
theorem zsH(a b:Int):mkRat (sgn (decide (a<0) != decide (b<0)) a.natAbs) b.natAbs=(a:Rat)/(b:Rat):=by
 by_cases hb:b=0
 ·subst hb;simp[Rat.div_def]
 ·have h1:mkRat (sgn (decide (a<0) != decide (b<0)) (a.natAbs*1)) (1*b.natAbs)=mkRat (sgn (decide (a<0)) a.natAbs) 1/mkRat (sgn (decide (b<0)) b.natAbs) 1:=zsZ _ _ _ _ _ _;rw[ze6,ze6,Zbp,Zah]at h1;rw[h1,Zbc,Zbc]
theorem zru(w:World)(a b:Int)(a1: -9223372036854775808<=a)(a2:a<=9223372036854775807)(b1: -9223372036854775808<=b)(b2:b<=9223372036854775807)(hb0:b≠0):
  Calls Tryz.prog 100 #[.int .i64 a,.int .i64 b] w (zlC w (zh ((a:Rat)/(b:Rat))) 0):=by
 have hR:=zbn.alloc w (.bool false) (.slice none 0 0) (.slice none 0 0) 51;have hN:=zV.alloc w #[.bool false,.slice none 0 0,.slice none 0 0] 51 Yd;have hB0:=blA w (zeP 51);obtain⟨HO1,HO2,HR,HN,HB,HQ⟩:=hd6 (fun wv=>zr5 wv a a1 a2) (fun wv=>zr5 wv b b1 b2) hR hN hB0 (zsH a b);have la:=za6 (n:=a.natAbs) Ya;have lb:=za6 (n:=b.natAbs) Ya;have HB0:=hid (show 0<b.natAbs from Ya);clear hR hN hB0 hb0
 go_enter Tryz.func100,Tryz.ntmps100
 go_wp2_with fail
 refine(HO1.out _).mono ?_
 rintro e w1 ⟨v1,rfl,i1,hb1⟩;obtain⟨I1,HRb1,HNb1⟩:=hd3 i1 (HR.out.below hb1) (HN.out.below hb1 HR.out.lt);have HB1:=htr HB hb1;clear HO1 HR HN HB i1 hb1
 go_wp2_with fail
 refine(HO2.out _).mono ?_
 rintro e w2 ⟨v2,rfl,i2,hb2⟩;have hM:=zqQ (I1.out.below hb2).v i2.v HB0.out Ya Ya;rw[HQ.out]at hM;obtain⟨HM,HR2,HN2⟩:=hd3 hM (HRb1.out.below hb2) (HNb1.out.below hb2 HRb1.out.lt);have HB2:=htr HB1 hb2;clear HO2 HRb1 HNb1 HB1 i2 hb2 hM I1
 go_wp2_with fail
 refine HM.out.mono ?_
 rintro e w5 ⟨v5,rfl,⟨bn',bd',m1,m2,rfl,k3,k4,k5,k6⟩,k2⟩;obtain⟨r0,r1,r2,rf,rlt⟩:=HR2.out.below k2;obtain⟨hN5,K5,K6⟩:=hd3 (HN2.out.below k2 HR2.out.lt) k5 k6;have hB5:=htr HB2 k2;clear HM k5 k6 k2;generalize zh ((a:Rat)/(b:Rat))=R at *;go_wp2;exact Zr (v:=.tuple #[.agg #[.bool R.neg,.slice bn' R.num.length m1,.slice bd' R.den.length m2],.int .i64 0]) (by simp[results,Tryz.results100,go_sem,r0,r1,r2]) rfl ⟨_,rfl,RatV.store hN5.out k3 k4 K5.out K6.out,zS hB5.out (Za _) _ _ _⟩
structure zr1 (w W:World) (g:Nat) (p q r s t u:Value):Prop where
 a:zbn W g p q r
 b:zbn W (g+1) s t u
 bl:Below g w W
theorem zr1.mk'(w:World)(p q r s t u:Value)(T:Nat):zr1 w ((w.alloc (.cells #[p,q,r] T)).alloc (.cells #[s,t,u] T)) w.heap.size p q r s t u:=by
 have step:∀(W:World) (o:Obj),Below W.heap.size W (W.alloc o):=fun W o=>(Zg _ _).alloc (Za _) _
 have s1:=step w (.cells #[p,q,r] T);have s3:=step (w.alloc (.cells #[p,q,r] T)) (.cells #[s,t,u] T);have b1:=zbn.alloc w p q r T;have b3:=zbn.alloc (w.alloc (.cells #[p,q,r] T)) s t u T;have b1':=b1.below s3;have bl:=s1.trans (s3.mono Yd);simp only[Zbe]at b3;exact⟨b1',b3,bl⟩
theorem zn8(x y:zaI):decide (x=y)=(decide (x.neg=y.neg) && (decide (x.num=y.num) && decide (x.den=y.den))):=by
 rw[ZY];simp only[Zy,Zw];obtain⟨a,b,c⟩:=x;obtain⟨d,e,f⟩:=y;simp
theorem zl2{v:Value}{x y:zaI}(hv:RatV w v x)(hu:RatV w u y):
  Calls Tryz.prog 24 #[v,u] w fun e w'=>e=.returned (.bool (decide (x=y)))/\Below w.heap.size w w':=by
 obtain⟨an,ad,cn,cd,rfl,a2,a3,a4,a5⟩:=hv.ex;obtain⟨bn,bd,dn,dd,rfl,b2,b3,b4,b5⟩:=hu.ex;have HR:=hid (zn8 x y);generalize decide (x=y)=R at *;have hl1:=a4.len;have hl2:=a5.len;have hl3:=b4.len;have hl4:=b5.len;obtain⟨A4,A5,B4,B5⟩:=hd4 a4 a5 b4 b5;clear hv hu a4 a5 b4 b5
 go_enter Tryz.func24,Tryz.ntmps24
 go_upto_region 1 with fail
 have hF:=zr1.mk' w (.bool x.neg) (.slice an x.num.length cn) (.slice ad x.den.length cd) (.bool y.neg) (.slice bn y.num.length dn) (.slice bd y.den.length dd) 51;generalize(w.alloc (zcB x an cn ad cd 51)).alloc (zcB y bn dn bd dd 51)=W at *;obtain⟨HBl,HM1,HM2,HBn⟩:=hd4 hF.bl (zpu cn dn (A4.out.below hF.bl) (B4.out.below hF.bl)) (fun n=>zpu cd dd ((A5.out.below hF.bl).drewN n) ((B5.out.below hF.bl).drewN n)) (fun(wv:World) n=>Below.drewN_refl wv n);obtain⟨x0,x1,x2,_,xlt⟩:=hF.a;obtain⟨y0,y1,y2,_,ylt⟩:=hF.b;have hbs:=hF.bl.size;clear hF A4 A5 B4 B5
 by_cases e1:x.neg=y.neg
 ·have te1:(x.neg==y.neg)=true:=Vb;rw[Zk e1,Z0]at HR;clear e1
  by_cases e2:x.num=y.num
  ·rw[Zk e2]at HR HM1;clear e2;rw[Z0]at HR;generalize decide (x.den=y.den)=D at *
   go_wp2_with fail
   refine HM1.out.mono ?_
   rintro e w2 ⟨rfl,n1,rfl⟩
   go_wp2_with fail
   refine(HM2.out n1).mono ?_
   rintro e w3 ⟨rfl,n2,rfl⟩;go_wp2;go_ret;exact⟨zj HR.out.symm,HBl.out.trans ((HBn.out _ (n1+n2)).mono HBl.out.size)⟩
  ·rw[Zo e2]at HR HM1;clear e2;rw[Bool.false_and]at HR
   go_wp2_with fail
   refine HM1.out.mono ?_
   rintro e w2 ⟨rfl,n1,rfl⟩;go_wp2;go_ret;exact⟨zj HR.out.symm,HBl.out.trans ((HBn.out _ _).mono HBl.out.size)⟩
 ·have te1:(x.neg==y.neg)=false:=Ky;rw[Zo e1,Bool.false_and]at HR;clear e1;go_wp2;go_ret;exact⟨zj HR.out.symm,HBl.out⟩
theorem zqn{w:World}{v:Value}{x:zaI}(hv:RatV w v x)(hx:zaf x 1048576):
  Calls Tryz.prog 67 #[v] w fun e w'=>e=.returned (.bool (zL x))/\Below w.heap.size w w':=by
 obtain⟨HV,HX⟩:=hd2 hv hx;obtain⟨an,ad,cn,cd,rfl,a2,a3,a4,a5⟩:=hv.ex;have HR:Hid (zL x=decide (x=za0 x)):=rfl;generalize zL x=R at *;have hl1:=a4.len;have hl2:=a5.len;clear hv hx a4 a5
 go_enter Tryz.func67,Tryz.ntmps67
 go_upto_region 1 with fail
 have hX:=zbn.alloc w (.bool x.neg) (.slice an x.num.length cn) (.slice ad x.den.length cd) 51;have hb:=blA w (zcB x an cn ad cd 51);generalize w.alloc (zcB x an cn ad cd 51)=W at *;obtain⟨HB,HV2,HX3⟩:=hd3 hb (HV.out.below hb) hX;obtain⟨x0,x1,x2,xf,xlt⟩:=hX;have xbl:Below W.heap.size W W.drew:=(Zg _ _).drew;clear hb xf HV
 go_region_held3 (fun w'=>w'.cell? ⟨w.heap.size,0,none⟩=some (.bool x.neg)/\w'.cell? ⟨w.heap.size,1,none⟩=some (.slice an x.num.length cn)/\w'.cell? ⟨w.heap.size,2,none⟩=some (.slice ad x.den.length cd))
  (first|exact zj0 x0 x1 x2 xlt ‹Below W.heap.size W _› | go_keep)
  (first
   | (go_at_call 45; have hS := ‹Below W.heap.size W _›; refine (zjX (HV2.out.below hS) HX.out).mono ?_; rintro e w1 ⟨v1, rfl, g1, g2⟩
      have hS1:=hS.trans (g2.mono hS.size);have G1:=hid g1;clear g1)
   | (go_at_call 24; have hS := ‹Below W.heap.size W _›; refine (zl2 (HV2.out.below hS) G1.out).mono ?_
      rintro e w2 ⟨rfl,g3⟩;have hS2:=hS.trans (g3.mono hS.size);have hB2:=htr HB hS2))
 go_wp2;go_ret;exact⟨zj HR.out.symm,hB2.out⟩
theorem zjb{j:Nat}{x:zaI}(hx:L[j]? =some x):(L.take (j+1)).all zL=((L.take j).all zL && zL x):=by
 rw[zaq hx,ZbA];simp
theorem zfe{x:zaI}(hx:x∈L)(h:zL x=false):L.all zL=false:=by
 rw[List.all_eq_false];exact⟨x,hx,by simp[h]⟩
theorem zlE{a:Option Addr}(c:Nat)(h:zN w a L)(hL:∀x∈L,zaf x 1048576):
  Calls Tryz.prog 38 #[.slice a L.length c] w fun e w'=>e=.returned (.bool (L.all zL))/\Below w.heap.size w w':=by
 have hl:=h.len;obtain⟨H,HL⟩:=hd2 h hL;have HR:Hid (L.all zL=L.all zL):=rfl;have HF:Hid (∀x∈L,zL x=false->L.all zL=false):=fun x hx hf=>zfe hx hf
 clear h hL
 go_enter Tryz.func38,Tryz.ntmps38
 go_wp2
 go_loopw [3] (fun i wr=>∃j:Nat,j<=L.length/\i=.int .i64 (j:Int)/\Hid ((L.take j).all zL=true)/\Hid (Below w.heap.size w wr)) (fun i _=>L.length-(intOf i).toNat)
 case atStart=>exact⟨0,Zs _,rfl,rfl,Zg _ _⟩
 case round=>
  exact U6
def zot(w:World)(z:Int)(k:Nat)(e:Ending)(w':World):Prop:=∃v s m,e=.returned v/\zcE w' v s m k/\sgn s m=z/\Below w.heap.size w w'
theorem zky(neg:Bool)(n:Nat):sgn (neg && decide (n≠0)) n=sgn neg n:=by
 cases neg
 ·rfl
 ·by_cases h:n=0
  ·subst h;simp[sgn]
  ·simp[sgn,h]
theorem zcE.store2{b:Bool}{k:Nat}{a:Option Addr}{c:Nat}(hN:zV w g)(h1:l.length<=c)(h2:zt w a l)(h3:zo l=n)(h4:l.length<=k):
  zcE ((w.setCell ⟨g,0,none⟩ (.bool b)).setCell ⟨g,1,none⟩ (.slice a l.length c)) (.agg #[.bool b,.slice a l.length c]) b n k:=
 ⟨a,c,l,rfl,h1,(h2.setCell hN _ _).setCell (hN.setCell _ _ Yd) _ _,h3,h4⟩
theorem zo7(h1:(ze x).length<=k1)(h2:(ze y).length<=k2):(ze (x+y)).length<=k1+k2+1:=by
 have h:=zjp (zq x) (zq y) (N:=k1+k2) Ya Ya
 rwa [zi,zi]at h
theorem zm6{w:World}{v u:Value}{n1:Bool}{x y k1 k2:Nat}(hv:zcE w v n1 x k1)(hu:zcE w u n1 y k2)(hr:k1+k2<=1759218604441):
  Calls Tryz.prog 160 #[v,u] w (zot w (sgn n1 x+sgn n1 y) (k1+k2+1)):=by
 obtain⟨a,c,l,rfl,h1,h2,h3,h4⟩:=hv.ex;obtain⟨b,d,m,rfl,g1,g2,g3,g4⟩:=hu.ex;have hl1:=h2.len;have hl2:=g2.len;have hsl:(ze (x+y)).length<=k1+k2+1:=zo7 (Zl Jj h4) (Zl Jk g4);obtain⟨HSl,H2,G2,H3,G3⟩:=hd5 hsl h2 g2 h3 g3;have HZ:Hid (sgn (n1 && decide (x+y≠0)) (x+y)=sgn n1 x+sgn n1 y):=by unfold Hid;rw[zky,zfy]
 have hlr:l.length+m.length<=17592186044416:=Ya;have hkr:k1+k2+1<=17592186044416:=Ya;have HAd:Hid (∀wv,zt wv a l->zt wv b m->Calls Tryz.prog 178 #[.slice a l.length c,.slice b m.length d] wv (znQ wv (x+y))):=fun wv q1 q2=>ztl c d h1 g1 q1 q2 H3.out G3.out hlr
 have HMk:Hid (∀wv a1 c1,(ze (x+y)).length<=c1->zt wv a1 (ze (x+y))->Calls Tryz.prog 177 #[.bool n1,.slice a1 (ze (x+y)).length c1] wv (fun e w'=>∃v,e=.returned v/\zcE w' v (n1 && decide (x+y≠0)) (x+y) (k1+k2+1)/\Below wv.heap.size wv w')):=fun wv a1 c1 q1 q2=>zn4 n1 c1 (k1+k2+1) q1 q2 (zi _) HSl.out hkr
 generalize sgn n1 x+sgn n1 y=Z at *;generalize(n1 && decide (x+y≠0))=B at *;generalize x+y=S at *;clear hv hu h2 g2 h3 g3 hsl
 go_enter Tryz.func160,Tryz.ntmps160
 have hF:=zqj.mk' w (.bool n1) (.slice a l.length c) (.bool n1) (.slice b m.length d) 89;go_wp2;generalize((w.alloc (.cells #[.bool n1,.slice a l.length c] 89)).alloc (.cells #[.bool n1,.slice b m.length d] 89)).alloc (.cells #[.bool false,.slice none 0 0] 89)=W at *;obtain⟨HF,HH2,HG2⟩:=hd3 hF (H2.out.below hF.bl) (G2.out.below hF.bl);have xbl:Below W.heap.size W W.drew:=(Zg _ _).drew;clear hF H2 G2
 go_region_held3 (fun w'=>w'.cell? ⟨w.heap.size,0,none⟩=some (.bool n1)/\w'.cell? ⟨w.heap.size,1,none⟩=some (.slice a l.length c)/\w'.cell? ⟨w.heap.size+1,0,none⟩=some (.bool n1)/\w'.cell? ⟨w.heap.size+1,1,none⟩=some (.slice b m.length d))
  (first|exact zfV HF.out.a HF.out.b ‹Below W.heap.size W _› | exact zge HF.out.a HF.out.b ‹Below W.heap.size W _› _ _)
  (first
   | (go_at_call 178; have hS := ‹Below W.heap.size W _›; refine (HAd.out _ (HH2.out.below hS) (HG2.out.below hS)).mono ?_; rintro e w1 ⟨a1, c1, rfl, p1, p2, p3⟩
      have hS1:=hS.trans (p3.mono hS.size))
   | (go_at_call 177; have hS := ‹Below W.heap.size W _›; refine (HMk.out _ _ _ p1 p2).mono ?_
      rintro e w2 ⟨v2,rfl,⟨a3,c3,l3,rfl,q1,q2,q3,q4⟩,q5⟩;have hS2:=hS.trans (q5.mono hS.size);obtain⟨r0,r1,rf,rlt⟩:=HF.out.c.below hS2;obtain⟨hN2,Q2⟩:=hd2 (HF.out.nc.below hS2 HF.out.c.lt) q2;have hB2:=hid (HF.out.bl.trans (hS2.mono Yy))))
 obtain⟨HI,HBf⟩:=hd2 (zcE.store2 (b:=B) hN2.out q1 Q2.out q3 q4) (zau (p:=.bool B) (q:=.slice a3 l3.length c3) hB2.out (show w.heap.size<=w.heap.size+1+1 from Ya));clear q3;go_wp2;exact Zr (v:=.agg #[.bool B,.slice a3 l3.length c3]) (by simp[results,Tryz.results160,go_sem,r0,r1]) rfl ⟨_,B,S,rfl,HI.out,HZ.out,HBf.out⟩
structure zpP (w W:World) (g:Nat) (p q r s:Value):Prop where
 f:zqj w W g p q r s
 na:zV W g
 nb:zV W (g+1)
theorem zpP.mk'(w:World)(n1 n2:Bool)(a b:Option Addr)(l m c d:Nat)(T:Nat):
  zpP w (((w.alloc (.cells #[.bool n1,.slice a l c] T)).alloc (.cells #[.bool n2,.slice b m d] T)).alloc (.cells #[.bool false,.slice none 0 0] T)) w.heap.size (.bool n1) (.slice a l c) (.bool n2) (.slice b m d):=by
 have step:∀(W:World) (o:Obj),Below W.heap.size W (W.alloc o):=fun W o=>(Zg _ _).alloc (Za _) _
 have b1:=za1.alloc w (.bool n1) (.slice a l c) T;have b2:=za1.alloc (w.alloc (.cells #[.bool n1,.slice a l c] T)) (.bool n2) (.slice b m d) T;have m1:=zV.alloc w #[.bool n1,.slice a l c] T Yd;have m2:=zV.alloc (w.alloc (.cells #[.bool n1,.slice a l c] T)) #[.bool n2,.slice b m d] T Yd
 refine⟨zqj.mk' w _ _ _ _ T,(m1.below (step _ _) b1.lt).below (step _ _) (b1.below (step _ (.cells #[.bool n2,.slice b m d] T))).lt,?_⟩
 have:=m2.below (step (((w.alloc (.cells #[.bool n1,.slice a l c] T)).alloc (.cells #[.bool n2,.slice b m d] T))) (.cells #[.bool false,.slice none 0 0] T)) b2.lt
 simpa using this
theorem za1.farI{p q:Nat}{b:Value}(hb:za1 w p b s)(hne:q≠p)(o:Nat)(v:Value):za1 (w.setCell ⟨q,o,none⟩ v) p b s:=
 ⟨(zfu hne).trans hb.c0,(zfu hne).trans hb.c1,fun i=>by simp[Zam,hb.free],by simpa using hb.lt⟩
theorem za1.storeI(h:za1 w g p q)(p' q':Value):za1 ((w.setCell ⟨g,0,none⟩ p').setCell ⟨g,1,none⟩ q') g p' q':=by
 refine⟨?_,?_,fun i=>by simp[Zam,h.free],Jr⟩
 ·exact It
 ·exact Ip
structure zs8 (w1 W5:World) (g:Nat) (p q r s:Value):Prop where
 a:za1 W5 g r s
 b:za1 W5 (g+1) p q
 c:za1 W5 (g+1+1) (.bool false) (.slice none 0 0)
 nc:zV W5 (g+1+1)
 sz:W5.heap.size=w1.heap.size
theorem zpP.swap(h:zpP w W g p q r s)(hb:Below W.heap.size W w1):zs8 w1 ((((w1.setCell ⟨g,0,none⟩ r).setCell ⟨g,1,none⟩ s).setCell ⟨g+1,0,none⟩ p).setCell ⟨g+1,1,none⟩ q) g p q r s:=by
 have A:=h.f.a.below hb;have B:=h.f.b.below hb;have C:=h.f.c.below hb;have N:=h.f.nc.below hb h.f.c.lt
 refine⟨?_,?_,?_,?_,Yd⟩
 ·exact((A.storeI r s).farI Ya _ _).farI Ya _ _
 ·exact((B.farI Ya _ _).farI Ya _ _).storeI p q
 ·exact(((C.farI Ya _ _).farI Ya _ _).farI Ya _ _).farI Ya _ _
 ·exact(((N.far Ya _ _).far Ya _ _).far Ya _ _).far Ya _ _
theorem zpP.swapU(h:zpP w W g p q r s)(hb:Below W.heap.size W w1)(hr:∀x,r≠.int .u32 x)(hs:∀x,s≠.int .u32 x)(hp:∀x,p≠.int .u32 x){a:Option Addr}(hu:zt w1 a l):
  zt ((((w1.setCell ⟨g,0,none⟩ r).setCell ⟨g,1,none⟩ s).setCell ⟨g+1,0,none⟩ p).setCell ⟨g+1,1,none⟩ q) a l:=by
 have NA:=h.na.below hb h.f.a.lt;have NB:=h.nb.below hb h.f.b.lt
 refine(((hu.setCell NA _ _).setCell (NA.setCell _ _ hr) _ _).setCell ?_ _ _).setCell ?_ _ _
 ·exact(NB.far Ya _ _).far Ya _ _
 ·exact((NB.far Ya _ _).far Ya _ _).setCell _ _ hp
theorem zm2{v:Value}(hv:zcE w v n1 x k1)(hu:zcE w u n2 y k2)(hn:n1≠n2)(hr:k1+k2<=1759218604441):
  Calls Tryz.prog 160 #[v,u] w (zot w (sgn n1 x+sgn n2 y) (k1+k2+1)):=by
 obtain⟨a,c,l,rfl,h1,h2,h3,h4⟩:=hv.ex;obtain⟨b,d,m,rfl,g1,g2,g3,g4⟩:=hu.ex;have hl1:=h2.len;have hl2:=g2.len;obtain⟨H2,G2,H3,G3⟩:=hd4 h2 g2 h3 g3;have hne:(n1==n2)=false:=by simpa using hn
 have HN:=hid hn;have hlx:(ze x).length<=k1:=Zl Jj h4;have hly:(ze y).length<=k2:=Zl Jk g4;have hlr:l.length+m.length<=17592186044416:=Ya;have hlr2:m.length+l.length<=17592186044416:=Ya;have hkr:k1+k2+1<=17592186044416:=Ya;have HMk:Hid (∀(nb:Bool) (V:Nat) wv a1 c1,(ze V).length<=k1+k2+1->(ze V).length<=c1->zt wv a1 (ze V)->Calls Tryz.prog 177 #[.bool nb,.slice a1 (ze V).length c1] wv (fun e w'=>∃v B,e=.returned v/\zcE w' v B V (k1+k2+1)/\sgn B V=sgn nb V/\Below wv.heap.size wv w')):=
  fun nb V wv a1 c1 q0 q1 q2=>(zn4 nb c1 (k1+k2+1) q1 q2 (zi _) q0 hkr).mono fun e w' ⟨v,r1,r2,r3⟩=>⟨v,_,r1,r2,zky nb V,r3⟩
 clear hv hu h2 g2 h3 g3 hn
 go_enter Tryz.func160,Tryz.ntmps160
 have hF:=zpP.mk' w n1 n2 a b l.length m.length c d 89
 go_wp2_with fail
 generalize((w.alloc (.cells #[.bool n1,.slice a l.length c] 89)).alloc (.cells #[.bool n2,.slice b m.length d] 89)).alloc (.cells #[.bool false,.slice none 0 0] 89)=W at *;obtain⟨HF,HH2,HG2⟩:=hd3 hF (H2.out.below hF.f.bl) (G2.out.below hF.f.bl);have HCm:=hid (zpR c d h1 g1 HH2.out HG2.out H3.out G3.out);clear hF H2 G2 hne
 refine HCm.out.mono ?_
 rintro e w1 ⟨rfl,n0,hw1⟩;have hb1:Below W.heap.size W w1:=by subst hw1;exact Below.drewN_refl _ _
 have HB1:=hid hb1;obtain⟨r0,r1,rf,rlt⟩:=HF.out.f.a.below hb1;obtain⟨s0,s1,sf,slt⟩:=HF.out.f.b.below hb1;clear hb1 HCm hw1
 by_cases hlt:x<y
 ·have hc:zdy x y= -1:=zfi hlt;obtain⟨HSw,HA5,HB5⟩:=hd3 (HF.out.swap HB1.out) (HF.out.swapU HB1.out (r:=.bool n2) (s:=.slice b m.length d) Yd Yd Yd (HH2.out.below HB1.out)) (HF.out.swapU HB1.out (r:=.bool n2) (s:=.slice b m.length d) Yd Yd Yd (HG2.out.below HB1.out));have hb5:Below w.heap.size w ((((w1.setCell ⟨w.heap.size,0,none⟩ (.bool n2)).setCell ⟨w.heap.size,1,none⟩ (.slice b m.length d)).setCell ⟨w.heap.size+1,0,none⟩ (.bool n1)).setCell ⟨w.heap.size+1,1,none⟩ (.slice a l.length c)):=
   zau (zau (HF.out.f.bl.trans (HB1.out.mono (by have:=HF.out.f.a.lt;omega))) (Za _) _ _) Ya _ _
  obtain⟨HBw,HZ,HLe⟩:=hd3 hb5 (zg6 HN.out hlt) (show x<=y from Ya);have hsb:(ze (y-x)).length<=k1+k2+1:=Ja;have HSb:=hid hsb;have fa0:=rf 0;have fa1:=rf 1;have fb0:=sf 0;have fb1:=sf 1;clear hb5 hsb rf sf hlt
  go_upto_region 5 with fail
  clear fa0 fa1 fb0 fb1;generalize((((w1.setCell ⟨w.heap.size,0,none⟩ (.bool n2)).setCell ⟨w.heap.size,1,none⟩ (.slice b m.length d)).setCell ⟨w.heap.size+1,0,none⟩ (.bool n1)).setCell ⟨w.heap.size+1,1,none⟩ (.slice a l.length c))=W5 at *;have HSub:=hid (zs2 d c g1 h1 HB5.out HA5.out G3.out H3.out hlr2 HLe.out);clear r0 r1 rlt s0 s1 slt hc;obtain⟨r0,r1,rf,rlt⟩:=HSw.out.a;obtain⟨s0,s1,sf,slt⟩:=HSw.out.b;clear rf sf
  go_wp2_with fail
  refine HSub.out.mono ?_
  rintro e w2 ⟨a1,c1,rfl,p1,p2,hb2⟩;obtain⟨HB2,HM⟩:=hd2 hb2 (HMk.out n2 (y-x) w2 a1 c1 HSb.out p1 p2);obtain⟨r0',r1',rf',rlt'⟩:=HSw.out.a.below hb2;clear p2 hb2 HSub r0 r1 rlt s0 s1 slt rf'
  go_wp2_with fail
  refine HM.out.mono ?_
  rintro e w3 ⟨v3,B,rfl,⟨a3,c3,l3,rfl,q1,q2,q3,q4⟩,hsg,q5⟩;have hS3:=HB2.out.trans (q5.mono HB2.out.size);obtain⟨t0,t1,tf,tlt⟩:=HSw.out.c.below hS3;have HI:=hid (zcE.store2 (b:=B) (HSw.out.nc.below hS3 HSw.out.c.lt) q1 q2 q3 q4);have hle:w.heap.size<=W5.heap.size:=HBw.out.size;obtain⟨HBf,HSg⟩:=hd2 (zau (p:=.bool B) (q:=.slice a3 l3.length c3) (HBw.out.trans (hS3.mono hle)) (show w.heap.size<=w.heap.size+1+1 from Ya)) (hsg.trans HZ.out);exact Ez
 ·have hge:y<=x:=Ya;have hc:decide (zdy x y<0)=false:=by
   apply Zo
   unfold zdy;rw[Zh hlt]
   split<;>omega
  obtain⟨HSub,HZ⟩:=hd2 (zs2 c d h1 g1 (HH2.out.below HB1.out) (HG2.out.below HB1.out) H3.out G3.out hlr hge) (zg1 HN.out hge);have hsb:(ze (x-y)).length<=k1+k2+1:=Jb;have HSb:=hid hsb;clear hsb rf sf hlt
  go_wp2_with fail
  refine HSub.out.mono ?_
  rintro e w2 ⟨a1,c1,rfl,p1,p2,hb2⟩;have HB2:=htr HB1 hb2;have HM:=hid (HMk.out n1 (x-y) w2 a1 c1 HSb.out p1 p2);obtain⟨r0',r1',rf',rlt'⟩:=HF.out.f.a.below HB2.out;clear p2 hb2 HSub r0 r1 rlt s0 s1 slt rf' hc
  go_wp2_with fail
  refine HM.out.mono ?_
  rintro e w3 ⟨v3,B,rfl,⟨a3,c3,l3,rfl,q1,q2,q3,q4⟩,hsg,q5⟩;have hS3:=HB2.out.trans (q5.mono HB2.out.size);obtain⟨t0,t1,tf,tlt⟩:=HF.out.f.c.below hS3;obtain⟨HI,HBf,HSg⟩:=hd3 (zcE.store2 (b:=B) (HF.out.f.nc.below hS3 HF.out.f.c.lt) q1 q2 q3 q4) (zau (p:=.bool B) (q:=.slice a3 l3.length c3) (HF.out.f.bl.trans (hS3.mono (by have:=HF.out.f.a.lt;omega))) (show w.heap.size<=w.heap.size+1+1 from Ya)) (hsg.trans HZ.out);exact Ez
theorem zs9{v:Value}(hv:zcE w v n1 x k1)(hu:zcE w u n2 y k2)(hr:k1+k2<=1759218604441):
  Calls Tryz.prog 160 #[v,u] w (zot w (sgn n1 x+sgn n2 y) (k1+k2+1)):=by
 by_cases hn:n1=n2
 ·subst hn;exact zm6 hv hu hr
 ·exact zm2 hv hu hn hr
theorem iOf(w:World)(x:Int)(h1: -9223372036854775808<=x)(h2:x<=9223372036854775807):
  Calls Tryz.prog 87 #[.int .i64 x] w (zot w x 2):=by
 have hR:=za1.alloc w (.bool false) (.slice none 0 0) 89;have hN:=zV.alloc w #[.bool false,.slice none 0 0] 89 Yd;obtain⟨HR,HN⟩:=hd2 hR hN;have hB0:=blA w (.cells #[.bool false,.slice none 0 0] 89);have HB:=hid hB0;clear hR hN hB0
 by_cases hx:x<0
 ·have hO:=fun wv=>nOf x.natAbs Ya wv
  rw[<- zmG h1 hx]at hO;have HO:=hid hO;have HX:Hid (sgn true x.natAbs=x):=by unfold Hid sgn;simp;omega
  have hlen:=za6 (n:=x.natAbs) Ya;have q1:decide (x<0)=true:=Zk hx;clear hO
  go_enter Tryz.func87,Tryz.ntmps87
  go_upto_region 1 with fail
  generalize w.alloc (.cells #[.bool false,.slice none 0 0] 89)=W at *
  go_wp2_with fail
  refine(HO.out _).mono ?_
  rintro e w1 ⟨a1,c1,rfl,k1,k2,hb1⟩;obtain⟨t0,t1,tf,tlt⟩:=HR.out.below hb1;obtain⟨HI,HBf⟩:=hd2 (zcE.store2 (b:=true) (HN.out.below hb1 HR.out.lt) k1 k2 (zi _) hlen) (zau (p:=.bool true) (q:=.slice a1 (ze x.natAbs).length c1) (HB.out.trans (hb1.mono HB.out.size)) (Za _));clear k2 hb1;generalize ze x.natAbs=L at *;go_wp2;exact Zr (v:=.agg #[.bool true,.slice a1 L.length c1]) Jc rfl ⟨_,true,_,rfl,HI.out,HX.out,HBf.out⟩
 ·obtain⟨n,rfl⟩:∃n:Nat,x=(n:Int):=⟨x.toNat,Ya⟩
  have HO:=hid (fun wv=>nOf n Ya wv);have HX:Hid (sgn false n=(n:Int)):=rfl;have hlen:=za6 (n:=n) Ya;have q1:decide ((n:Int)<0)=false:=Zo hx
  go_enter Tryz.func87,Tryz.ntmps87
  go_upto_region 1 with fail
  generalize w.alloc (.cells #[.bool false,.slice none 0 0] 89)=W at *
  go_wp2_with fail
  refine(HO.out _).mono ?_
  rintro e w1 ⟨a1,c1,rfl,k1,k2,hb1⟩;obtain⟨t0,t1,tf,tlt⟩:=HR.out.below hb1;obtain⟨HI,HBf⟩:=hd2 (zcE.store2 (b:=false) (HN.out.below hb1 HR.out.lt) k1 k2 (zi _) hlen) (zau (p:=.bool false) (q:=.slice a1 (ze n).length c1) (HB.out.trans (hb1.mono HB.out.size)) (Za _));clear k2 hb1;generalize ze n=L at *;go_wp2;exact Zr (v:=.agg #[.bool false,.slice a1 L.length c1]) Jc rfl ⟨_,false,_,rfl,HI.out,HX.out,HBf.out⟩
theorem zsT{w:World}{v u:Value}{x y:zaI}(hv:RatV w v x)(hu:RatV w u y)(hx:zaf x 1048575)(hy:zaf y 1048575):
  Calls Tryz.prog 134 #[v,u] w (zey w (zh (zbc x*zbc y))):=by
 obtain⟨HV,HU⟩:=hd2 hv hu;obtain⟨an,ad,cn,cd,rfl,a2,a3,a4,a5⟩:=hv.ex;obtain⟨bn,bd,dn,dd,rfl,b2,b3,b4,b5⟩:=hu.ex;have hQ:Hid (zh (zbc x*zbc y)=zbD (x.neg != y.neg) (zo x.num*zo y.num) (zw x.den*zw y.den)):=Is;obtain⟨hx1,hx2⟩:=hx;obtain⟨hy1,hy2⟩:=hy;have hl1:=a4.len;have hl2:=a5.len;have hl3:=b4.len;have hl4:=b5.len;obtain⟨A4,B4⟩:=hd2 a4 b4;have hml:(ze (zo x.num*zo y.num)).length<=1099511627776:=Zl (zdn rfl rfl hx1 hy1 a4.lim b4.lim) Ya;have hdp:0<zw x.den*zw y.den:=Zaw (z6 _) (z6 _);have HDp:=hid hdp;have hxd:x.den.length<=17592186044416:=Ya;have hyd:y.den.length<=17592186044416:=Ya;clear hv hu a4 a5 b4 b5 hdp
 go_enter Tryz.func134,Tryz.ntmps134
 go_wp2_with fail
 have hF:=zmm.mk' w (.bool x.neg) (.slice an x.num.length cn) (.slice ad x.den.length cd) (.bool y.neg) (.slice bn y.num.length dn) (.slice bd y.den.length dd) 51;generalize((w.alloc (zcB x an cn ad cd 51)).alloc (zcB y bn dn bd dd 51)).alloc (zeP 51)=W at *;obtain⟨HF,HA4,HB4,HVW,HUW⟩:=hd5 hF (A4.out.below hF.bl) (B4.out.below hF.bl) (HV.out.below hF.bl) (HU.out.below hF.bl);have xbl:Below W.heap.size W W.drew:=(Zg _ _).drew;have tok1:True:=trivial;have tok2:True:=trivial;clear hF A4 B4 HV HU
 go_region_held3 (fun w'=>w'.cell? ⟨w.heap.size,0,none⟩=some (.bool x.neg)/\w'.cell? ⟨w.heap.size,1,none⟩=some (.slice an x.num.length cn)/\w'.cell? ⟨w.heap.size,2,none⟩=some (.slice ad x.den.length cd)/\
   w'.cell? ⟨w.heap.size+1,0,none⟩=some (.bool y.neg)/\w'.cell? ⟨w.heap.size+1,1,none⟩=some (.slice bn y.num.length dn)/\w'.cell? ⟨w.heap.size+1,2,none⟩=some (.slice bd y.den.length dd))
  (first|exact zbW HF.out.a HF.out.b HF.out.a.lt HF.out.b.lt ‹Below W.heap.size W _› | exact zbW (B:=w.heap.size+1+1) HF.out.a HF.out.b (Nat.lt_succ_of_lt (Zai _)) (Zai _) (zS (hS5.mono (Z6 HF.out.c.lt)) (Za _) _ _ _))
  (first
   | (go_at_call 161; have _t := tok1; clear tok1; have hS := ‹Below W.heap.size W _›; refine (zrY cn dn a2 b2 (HA4.out.below hS) (HB4.out.below hS) rfl rfl Ya).mono ?_; rintro e w1 ⟨a1, c1, rfl, g1, g2, g3⟩
      have hS1:=hS.trans (g3.mono hS.size);have G2:=hid g2;clear g2)
   | (go_at_call 150; have _t := tok2; clear tok2; have hS := ‹Below W.heap.size W _›; refine (zgF (HVW.out.below hS) hxd).mono ?_; rintro e w2 ⟨a2', c2, l2, rfl, p1, p2, p3, p4, p5⟩
      have hS2:=hS.trans (p5.mono hS.size);have G2b:=hid (G2.out.below p5);have P2:=hid p2;have P3:=hid p3;clear p2 p3)
   | (go_at_call 150; have hS := ‹Below W.heap.size W _›; refine (zgF (HUW.out.below hS) hyd).mono ?_; rintro e w3 ⟨a3', c3, l3, rfl, q1, q2, q3, q4, q5⟩
      have hS3:=hS.trans (q5.mono hS.size);have G2c:=hid (G2b.out.below q5);have P2b:=hid (P2.out.below q5);have Q2:=hid q2;have Q3:=hid q3;clear q2 q3)
   | (go_at_call 161; have hS := ‹Below W.heap.size W _›; refine (zrY c2 c3 p1 q1 P2b.out Q2.out P3.out Q3.out Ya).mono ?_; rintro e w4 ⟨a4, c4, rfl, t1, t2, t3⟩
      have hS4:=hS.trans (t3.mono hS.size);have G2d:=hid (G2c.out.below t3);have T2:=hid t2;clear t2;have hdl:(ze (zw x.den*zw y.den)).length<=1099511627776:=Zl (zdn P3.out Q3.out p4 q4 P2b.out.lim Q2.out.lim) Ya)
   | (go_at_call 128; have hS := ‹Below W.heap.size W _›; refine (zl5 (x.neg != y.neg) c1 c4 g1 t1 G2d.out T2.out (zi _) (zi _) hml hdl HDp.out).mono ?_
      rintro e w5 ⟨v5,rfl,⟨bn',bd',m1,m2,rfl,k3,k4,k5,k6⟩,k2⟩;have hS5:=hS.trans (k2.mono hS.size);obtain⟨r0,r1,r2,rf,rlt⟩:=HF.out.c.below hS5;obtain⟨hN5,K5,K6⟩:=hd3 (HF.out.nc.below hS5 HF.out.c.lt) k5 k6;have hB5:=hid (HF.out.bl.trans (hS5.mono Yy))))
 generalize zbD (x.neg != y.neg) (zo x.num*zo y.num) (zw x.den*zw y.den)=R at *;go_wp2;exact Zr (v:=.agg #[.bool R.neg,.slice bn' R.num.length m1,.slice bd' R.den.length m2]) (by simp[results,Tryz.results134,go_sem,r0,r1,r2]) rfl ⟨_,rfl,Kd,zS hB5.out Ya _ _ _⟩
theorem zmn{b c:Value}(ha:zbn W g p q r)(hb:zbn W (g+1) s t u)(hi:za1 W h b c)(h1:g<B)(h2:g+1<B)(hl:Below B W w1)(hk:∀o,w1.cell? ⟨h,o,none⟩=W.cell? ⟨h,o,none⟩):
  w1.cell? ⟨g,0,none⟩=some p/\w1.cell? ⟨g,1,none⟩=some q/\w1.cell? ⟨g,2,none⟩=some r/\w1.cell? ⟨g+1,0,none⟩=some s/\w1.cell? ⟨g+1,1,none⟩=some t/\w1.cell? ⟨g+1,2,none⟩=some u/\w1.cell? ⟨h,0,none⟩=some b/\w1.cell? ⟨h,1,none⟩=some c:=
 ⟨(hl.cell (p:=⟨g,0,none⟩) h1).trans ha.c0,(hl.cell (p:=⟨g,1,none⟩) h1).trans ha.c1,(hl.cell (p:=⟨g,2,none⟩) h1).trans ha.c2,(hl.cell (p:=⟨g+1,0,none⟩) h2).trans hb.c0,(hl.cell (p:=⟨g+1,1,none⟩) h2).trans hb.c1,(hl.cell (p:=⟨g+1,2,none⟩) h2).trans hb.c2,(hk 0).trans hi.c0,(hk 1).trans hi.c1⟩
theorem zti(hne:g≠h)(p q r:Value)(o:Nat):(((w.setCell ⟨g,0,none⟩ p).setCell ⟨g,1,none⟩ q).setCell ⟨g,2,none⟩ r).cell? ⟨h,o,none⟩=w.cell? ⟨h,o,none⟩:=(zfu hne).trans ((zfu hne).trans (zfu hne))
theorem zs3{w:World}{v u:Value}{x y:zaI}(hv:RatV w v x)(hu:RatV w u y)(hx:zaf x 1048575)(hy:zaf y 1048575):
  Calls Tryz.prog 133 #[v,u] w (zey w (zh (zbc x+zbc y))):=by
 obtain⟨HV,HU⟩:=hd2 hv hu;obtain⟨an,ad,cn,cd,rfl,a2,a3,a4,a5⟩:=hv.ex;obtain⟨bn,bd,dn,dd,rfl,b2,b3,b4,b5⟩:=hu.ex;obtain⟨hx1,hx2⟩:=hx;obtain⟨hy1,hy2⟩:=hy;have hdp:0<zw x.den*zw y.den:=Zaw (z6 _) (z6 _);have HDp:=hid hdp;have hxd:x.den.length<=17592186044416:=Ya;have hyd:y.den.length<=17592186044416:=Ya;clear hv hu a4 a5 b4 b5 hdp
 go_enter Tryz.func133,Tryz.ntmps133
 go_wp2_with fail
 have hF:=zmm.mk' w (.bool x.neg) (.slice an x.num.length cn) (.slice ad x.den.length cd) (.bool y.neg) (.slice bn y.num.length dn) (.slice bd y.den.length dd) 51;generalize((w.alloc (zcB x an cn ad cd 51)).alloc (zcB y bn dn bd dd 51)).alloc (zeP 51)=W at *;obtain⟨HF,HVW,HUW⟩:=hd3 hF (HV.out.below hF.bl) (HU.out.below hF.bl);have HX:=hid (zrD HVW.out HUW.out Ya Ya Ya Ya);clear hF HV HU
 refine HX.out.mono ?_
 rintro e w1 ⟨v1,v2,n1,n2,rfl,i1,i2,e1,e2,hb1⟩;obtain⟨pa,pc,pl,rfl,q1,q2,q3,q4⟩:=i1.ex;obtain⟨sa,sc,sl,rfl,t1,t2,t3,t4⟩:=i2.ex;obtain⟨HB1,Q2,Q3,T2,T3⟩:=hd5 hb1 q2 q3 t2 t3;clear i1 i2 hb1 q2 q3 t2 t3 HX
 go_upto_region 2 with fail
 have hb12:Below w1.heap.size w1 ((w1.alloc (.cells #[.bool n1,.slice pa pl.length pc] 89)).alloc (.cells #[.bool n2,.slice sa sl.length sc] 89)):=((Zg _ _).alloc (Za _) _).alloc Yd _;have HP:=hid ((za1.alloc w1 (.bool n1) (.slice pa pl.length pc) 89).below ((Zg _ _).alloc (Za _) (.cells #[.bool n2,.slice sa sl.length sc] 89)));have hS:=za1.alloc (w1.alloc (.cells #[.bool n1,.slice pa pl.length pc] 89)) (.bool n2) (.slice sa sl.length sc) 89;simp only[Zbe]at hS;have HS:=hid hS;clear hS;generalize(w1.alloc (.cells #[.bool n1,.slice pa pl.length pc] 89)).alloc (.cells #[.bool n2,.slice sa sl.length sc] 89)=W2 at *;have HB2:=htr HB1 hb12;have hI1:zcE W2 (.agg #[.bool n1,.slice pa pl.length pc]) n1 (zo x.num*zw y.den) (x.num.length+y.den.length+1):=⟨pa,pc,pl,rfl,q1,Q2.out.below hb12,Q3.out,q4⟩
 have hI2:zcE W2 (.agg #[.bool n2,.slice sa sl.length sc]) n2 (zo y.num*zw x.den) (y.num.length+x.den.length+1):=⟨sa,sc,sl,rfl,t1,T2.out.below hb12,T3.out,t4⟩
 have hAd:=zs9 hI1 hI2 Ya;rw[e1,e2]at hAd;have HAd:=hid hAd;obtain⟨x0,x1,_,xlt⟩:=HP.out;obtain⟨y0,y1,_,ylt⟩:=HS.out;clear hI1 hI2 hAd e1 e2 hb12 Q2 Q3 T2 T3
 go_wp2_with fail
 refine HAd.out.mono ?_
 rintro e w3 ⟨v3,n3,m3,rfl,i3,e3,hb3⟩;obtain⟨ra,rc,rl,rfl,o1,o2,o3,o4⟩:=i3.ex;have hb4:=blA w3 (.cells #[.bool n3,.slice ra rl.length rc] 89);obtain⟨HH,HB4,HO2,HO3⟩:=hd4 (za1.alloc w3 (.bool n3) (.slice ra rl.length rc) 89) (HB2.out.trans ((hb3.trans (hb4.mono hb3.size)).mono HB2.out.size)) (o2.below hb4) o3;have hE3:Hid (zbD n3 m3 (zw x.den*zw y.den)=zh (zbc x+zbc y)):=by
  unfold Hid;rw[zbU _ _ HDp.out,e3]
  congr 1
  exact zsW _ _ _ _ (z6 _) (z6 _)
 have hgr:w.heap.size+1+1<w3.heap.size:=Zd HF.out.c.lt (Zl HB2.out.size hb3.size);have ho4:rl.length<=1099511627776:=Ya;clear i3 e3 hb3 hb4 o2 o3 HAd x0 x1 xlt y0 y1 ylt HB1 HB2 HP HS
 go_upto_region 3 with fail
 obtain⟨h,hh⟩:∃h,h=w3.heap.size:=⟨_,rfl⟩
 rw[<- hh]at HH hgr⊢;generalize w3.alloc (.cells #[.bool n3,.slice ra rl.length rc] 89)=W4 at *;obtain⟨HVx,HUx,HF4⟩:=hd3 (HVW.out.below HB4.out) (HUW.out.below HB4.out) (HF.out.below HB4.out);have hne:w.heap.size+1+1≠h:=Ya;have xbl:Below W4.heap.size W4 W4.drew:=(Zg _ _).drew;have tok1:True:=trivial;clear hh hgr HVW HUW HF HB4;generalize zh (zbc x+zbc y)=R at *
 go_region_held3 (fun w'=>w'.cell? ⟨w.heap.size,0,none⟩=some (.bool x.neg)/\w'.cell? ⟨w.heap.size,1,none⟩=some (.slice an x.num.length cn)/\w'.cell? ⟨w.heap.size,2,none⟩=some (.slice ad x.den.length cd)/\
   w'.cell? ⟨w.heap.size+1,0,none⟩=some (.bool y.neg)/\w'.cell? ⟨w.heap.size+1,1,none⟩=some (.slice bn y.num.length dn)/\w'.cell? ⟨w.heap.size+1,2,none⟩=some (.slice bd y.den.length dd)/\w'.cell? ⟨h,0,none⟩=some (.bool n3)/\w'.cell? ⟨h,1,none⟩=some (.slice ra rl.length rc))
  (first|exact zmn HF4.out.a HF4.out.b HH.out HF4.out.a.lt HF4.out.b.lt ‹Below W4.heap.size W4 _› (fun o=>(‹Below W4.heap.size W4 _›).cell (p:=⟨h,o,none⟩) HH.out.lt)|exact zmn (B:=w.heap.size+1+1) HF4.out.a HF4.out.b HH.out (Nat.lt_succ_of_lt (Zai _)) (Zai _) (zS (hS5.mono (Z6 HF4.out.c.lt)) (Za _) _ _ _) (fun o=>(zti hne _ _ _ o).trans (hS5.cell (p:=⟨h,o,none⟩) HH.out.lt)))
  (first
   | (go_at_call 150; have _t := tok1; clear tok1; have hS := ‹Below W4.heap.size W4 _›; refine (zgF (HVx.out.below hS) hxd).mono ?_; rintro e w5 ⟨a2', c2, l2, rfl, p1, p2, p3, p4, p5⟩
      have hS2:=hS.trans (p5.mono hS.size);have P2:=hid p2;have P3:=hid p3;clear p2 p3)
   | (go_at_call 150; have hS := ‹Below W4.heap.size W4 _›; refine (zgF (HUx.out.below hS) hyd).mono ?_; rintro e w6 ⟨a3', c3, l3, rfl, q1', q2', q3', q4', q5'⟩
      have hS3:=hS.trans (q5'.mono hS.size);have P2b:=hid (P2.out.below q5');have Q2':=hid q2';have Q3':=hid q3';clear q2' q3')
   | (go_at_call 161; have hS := ‹Below W4.heap.size W4 _›; refine (zrY c2 c3 p1 q1' P2b.out Q2'.out P3.out Q3'.out Ya).mono ?_; rintro e w7 ⟨a4, c4, rfl, z1, z2, z3⟩
      have hS4:=hS.trans (z3.mono hS.size);have Z2:=hid z2;clear z2;have hdl:(ze (zw x.den*zw y.den)).length<=1099511627776:=Zl (zdn P3.out Q3'.out p4 q4' P2b.out.lim Q2'.out.lim) Ya)
   | (go_at_call 128; have hS := ‹Below W4.heap.size W4 _›; refine (zl5 n3 rc c4 o1 z1 (HO2.out.below hS) Z2.out HO3.out (zi _) ho4 hdl HDp.out).mono ?_; rw [hE3.out]
      rintro e w8 ⟨v5,rfl,⟨bn',bd',m1,m2,rfl,k3,k4,k5,k6⟩,k2⟩;have hS5:=hS.trans (k2.mono hS.size);obtain⟨r0,r1,r2,rf,rlt⟩:=HF4.out.c.below hS5;obtain⟨hN5,K5,K6⟩:=hd3 (HF4.out.nc.below hS5 HF4.out.c.lt) k5 k6;have hB5:=hid (HF4.out.bl.trans (hS5.mono (by have:=HF4.out.a.lt;omega)))))
 go_wp2;exact Zr (v:=.agg #[.bool R.neg,.slice bn' R.num.length m1,.slice bd' R.den.length m2]) (by simp[results,Tryz.results133,go_sem,r0,r1,r2]) rfl ⟨_,rfl,RatV.store hN5.out k3 k4 K5.out K6.out,zS hB5.out Ya _ _ _⟩
structure zsI (w W:World) (g:Nat) (p q:Value):Prop where
 a:za1 W g p q
 c:zbn W (g+1) (.bool false) (.slice none 0 0) (.slice none 0 0)
 nc:zV W (g+1)
 bl:Below g w W
theorem zsI.mk'(w:World)(p q:Value)(T T':Nat):zsI w ((w.alloc (.cells #[p,q] T)).alloc (.cells #[.bool false,.slice none 0 0,.slice none 0 0] T')) w.heap.size p q:=by
 have step:∀(W:World) (o:Obj),Below W.heap.size W (W.alloc o):=fun W o=>(Zg _ _).alloc (Za _) _
 have s1:=step w (.cells #[p,q] T);have s3:=step (w.alloc (.cells #[p,q] T)) (.cells #[.bool false,.slice none 0 0,.slice none 0 0] T');have b1:=za1.alloc w p q T;have b3:=zbn.alloc (w.alloc (.cells #[p,q] T)) (.bool false) (.slice none 0 0) (.slice none 0 0) T';have n3:=zV.alloc (w.alloc (.cells #[p,q] T)) #[.bool false,.slice none 0 0,.slice none 0 0] T' Yd;have b1':=b1.below s3;have bl:=s1.trans (s3.mono Yd);simp only[Zbe]at b3 n3;exact⟨b1',b3,n3,bl⟩
theorem znf(ha:za1 W g p q)(h1:g<B)(hl:Below B W w1):w1.cell? ⟨g,0,none⟩=some p/\w1.cell? ⟨g,1,none⟩=some q:=
 ⟨(hl.cell (p:=⟨g,0,none⟩) h1).trans ha.c0,(hl.cell (p:=⟨g,1,none⟩) h1).trans ha.c1⟩
theorem zlb(neg:Bool)(n:Nat):zbD neg n 1=zh ((sgn neg n:Int):Rat):=by
 rw[zbU _ _ Yb,Zbc]
theorem zq7{w:World}{v:Value}{neg:Bool}{n k:Nat}(hv:zcE w v neg n k)(hr:k<=1099511627776):
  Calls Tryz.prog 86 #[v] w (zey w (zh ((sgn neg n:Int):Rat))):=by
 obtain⟨a,c,l,rfl,h1,h2,h3,h4⟩:=hv.ex;obtain⟨H2,H3,hQ⟩:=hd3 h2 h3 (zlb neg n);have hlr:l.length<=1099511627776:=Ya;clear hv h2 h3
 go_enter Tryz.func86,Tryz.ntmps86
 go_wp2_with fail
 have hF:=zsI.mk' w (.bool neg) (.slice a l.length c) 89 51;generalize(w.alloc (.cells #[.bool neg,.slice a l.length c] 89)).alloc (zeP 51)=W at *;obtain⟨HF,HU⟩:=hd2 hF (H2.out.below hF.bl);have xbl:Below W.heap.size W W.drew:=(Zg _ _).drew;clear hF H2;generalize zh ((sgn neg n:Int):Rat)=R at *
 go_region_held3 (fun w'=>w'.cell? ⟨w.heap.size,0,none⟩=some (.bool neg)/\w'.cell? ⟨w.heap.size,1,none⟩=some (.slice a l.length c))
  (first|exact znf HF.out.a HF.out.a.lt ‹Below W.heap.size W _› | exact znf (B:=w.heap.size+1) HF.out.a (Zai _) (zS (hS2.mono (Z6 HF.out.c.lt)) (Za _) _ _ _))
  (first
   | (go_at_call 129; have hS := ‹Below W.heap.size W _›; refine (zs0 _).mono ?_; rintro e w1 ⟨⟨a1, rfl, p2⟩, p3⟩
      have hS1:=hS.trans (p3.mono hS.size);have P2:=hid p2;clear p2)
   | (go_at_call 128; have hS := ‹Below W.heap.size W _›; refine (zl5 (m := [1]) neg c 1 h1 (Za _) (HU.out.below hS) P2.out H3.out (show zo [1] = 1 from rfl) hlr Yd Yb).mono ?_; rw [hQ.out]
      rintro e w2 ⟨v5,rfl,⟨bn',bd',m1,m2,rfl,k3,k4,k5,k6⟩,k2⟩;have hS2:=hS.trans (k2.mono hS.size);obtain⟨r0,r1,r2,rf,rlt⟩:=HF.out.c.below hS2;obtain⟨hN5,K5,K6⟩:=hd3 (HF.out.nc.below hS2 HF.out.c.lt) k5 k6;have hB5:=hid (HF.out.bl.trans (hS2.mono Yy))))
 go_wp2;exact Zr (v:=.agg #[.bool R.neg,.slice bn' R.num.length m1,.slice bd' R.den.length m2]) (by simp[results,Tryz.results86,go_sem,r0,r1,r2]) rfl ⟨_,rfl,RatV.store hN5.out k3 k4 K5.out K6.out,zS hB5.out Ya _ _ _⟩
theorem rOf(w:World)(x:Int)(h1: -9223372036854775808<=x)(h2:x<=9223372036854775807):
  Calls Tryz.prog 54 #[.int .i64 x] w (zey w (zh (x:Rat))):=by
 have hR:=zbn.alloc w (.bool false) (.slice none 0 0) (.slice none 0 0) 51;have hN:=zV.alloc w #[.bool false,.slice none 0 0,.slice none 0 0] 51 Yd;have hB0:=blA w (zeP 51);obtain⟨HO,HR,HN,HB⟩:=hd4 (fun wv=>iOf wv x h1 h2) hR hN hB0;clear hR hN hB0
 go_enter Tryz.func54,Tryz.ntmps54
 go_upto_region 1 with fail
 generalize w.alloc (zeP 51)=W at *
 go_wp2_with fail
 refine(HO.out _).mono ?_
 rintro e w1 ⟨v1,s1,m1,rfl,i1,e1,hb⟩;have hW:=zq7 i1 Yb;rw[e1]at hW;obtain⟨HW,HR2,HN2⟩:=hd3 hW (HR.out.below hb) (HN.out.below hb HR.out.lt);have HB2:=htr HB hb;clear HO hb HR HN HB hW i1 e1;generalize zh (x:Rat)=R at *
 go_wp2_with fail
 refine HW.out.mono ?_
 rintro e w2 ⟨v2,rfl,⟨bn',bd',m1,m2,rfl,k3,k4,k5,k6⟩,k2⟩;obtain⟨r0,r1,r2,rf,rlt⟩:=HR2.out.below k2;obtain⟨hN5,K5,K6⟩:=hd3 (HN2.out.below k2 HR2.out.lt) k5 k6;have hB5:=htr HB2 k2;clear HW k5 k6 k2;go_wp2;exact Zr (v:=.agg #[.bool R.neg,.slice bn' R.num.length m1,.slice bd' R.den.length m2]) (by simp[results,Tryz.results54,go_sem,r0,r1,r2]) rfl ⟨_,rfl,RatV.store hN5.out k3 k4 K5.out K6.out,zS hB5.out (Za _) _ _ _⟩
def ze4(p q:Rat):Rat:=if q<=p then p else q
def zqi(ws:List Rat)(off:Nat)(ix:List Int)(x:List Rat)(k:Nat):Rat:=if 0<=ix.getD k 0 then ws.getD (off+k) 0*x.getD (ix.getD k 0).toNat 0 else 0
def zrZ(b:Rat)(ws:List Rat)(off:Nat)(ix:List Int)(x:List Rat):Nat->Rat
 | 0=>b
 | k+1=>zrZ b ws off ix x k+zqi ws off ix x k
def zsk(b:Rat)(ws:List Rat)(off:Nat)(ix:List Int)(x:List Rat):Rat:=zrZ b ws off ix x ix.length
def zmS(ix:List Int)(x:List Rat):List Rat:=ix.map fun i=>x.getD i.toNat 0
def zmd(l:List Rat):Nat->Rat
 | 0=>l.getD 0 0
 | k+1=>ze4 (zmd l k) (l.getD (k+1) 0)
def zrj(l:List Rat):Nat->Rat
 | 0=>l.getD 0 0
 | k+1=>zrj l k+l.getD (k+1) 0
def zjH(l:List Rat):Rat:=zmd l (l.length-1)
def zsG(l:List Rat):Rat:=zrj l (l.length-1)/((l.length:Int):Rat)
structure zkR (W:World) (g:Nat) (x:zaI):Prop where
 ex:∃an ad cn cd,zbn W g (.bool x.neg) (.slice an x.num.length cn) (.slice ad x.den.length cd)/\x.num.length<=cn/\x.den.length<=cd/\zt W an x.num/\zt W ad x.den
 nc:zV W g
theorem zkR.lt{x:zaI}(h:zkR W g x):g<W.heap.size:=by
 obtain⟨⟨an,ad,cn,cd,h1,_⟩,_⟩:=h;exact h1.lt
theorem zkR.below{x:zaI}(h:zkR W g x)(hb:Below W.heap.size W W'):zkR W' g x:=by
 obtain⟨⟨an,ad,cn,cd,h1,h2,h3,h4,h5⟩,h6⟩:=h;exact⟨⟨an,ad,cn,cd,h1.below hb,h2,h3,h4.below hb,h5.below hb⟩,h6.below hb h1.lt⟩
theorem zkR.alloc{x:zaI}(h2:x.num.length<=cn)(h3:x.den.length<=cd)(h4:zt W an x.num)(h5:zt W ad x.den)(T:Nat):
  zkR (W.alloc (.cells #[.bool x.neg,.slice an x.num.length cn,.slice ad x.den.length cd] T)) W.heap.size x:=
 have hb:Below W.heap.size W (W.alloc (.cells #[.bool x.neg,.slice an x.num.length cn,.slice ad x.den.length cd] T)):=(Zg _ W).alloc (Za _) _
 ⟨⟨an,ad,cn,cd,zbn.alloc W _ _ _ T,h2,h3,h4.below hb,h5.below hb⟩,zV.alloc W _ T Yd⟩
theorem zm5{α:Type}{l:List α}{k:Nat}{x d:α}(h:l[k]? =some x):l.getD k d=x:=by rw[Zf,h];rfl
theorem zel{l:List Rat}{k:Nat}{u:zaI}(h:(l.map zh)[k]? =some u):zbc u=l.getD k 0/\u=zh (l.getD k 0):=by
 rw[ZV]at h
 cases hx:l[k]? with
 | none=>rw[hx]at h;cases h
 | some q=>
  rw[hx]at h;simp only[Option.map_some,Zas]at h;subst h;rw[zm5 hx,zax];exact⟨rfl,rfl⟩
def noI(v:Value):Bool:=match v with | .int .u32 _=>false|_=>true
def NoO(w:World)(v:Value):Prop:=∀g,v.ownBlock=some g->zV w g
theorem zqS{v:Value}(h:∀x,v≠.int .u32 x):noI v=true:=by
 unfold noI
 split
 ·exact absurd rfl (h _)
 ·rfl
theorem zV.of_heap{c:Array Value}{f:Nat×Nat}(h:w.heap[g]? =some (.cells c T f))(hc:∀u∈c,noI u=true):zV w g:=by
 intro o x e;simp only[World.cell?,h]at e;have:=hc _ (Zbj e);cases this
theorem zkp{z:Value}(h:∀u∈z.cells,noI u=true):∀u∈Builtin.zeroCells z.cells n,noI u=true:=Tf
theorem zh2{P:Program}(w:World)(base:Nat)(t ty e:TypeId)(i:TypeInfo)(z:Value)(size bytes:Nat)(ht:P.underlying t=some (.slice e))(hi:P.info? e=some i)(hz:i.zero=some z)
 (hsize:i.size=size)(hby:i.bytes=bytes)(hzs:z.cells.size=size)(hsz:0<size)
 (v:Value)(n:Nat)(xs:List Value)(hown:w.ownsRow base e size v n xs)
 (a:Addr)(m c:Nat)(news:List Value)(hl:news.length=m*size)(hnews:∀j u,news[j]? =some u->w.cell? (a.add j)=some u)(h1:∀u∈news,u.oneCell'=true)
 (hm:0<m)(h63:n+m<=maxLen)(hbytes:(n+m)*bytes<=140737488355328)(hbase:base<=w.heap.size)
 (hno:NoO w v)(hnn:∀u∈news,noI u=true)(hzn:∀u∈z.cells,noI u=true):
  ∃v' w',(Builtin.append_ #[t,t] ty #[v,.slice (some a) m c]).run P w=.ok v' w'/\w'.ownsRow base e size v' (n+m) (xs++news)/\w.grownBy w' v.ownBlock/\ziB w v v'/\NoO w' v':=by
 obtain⟨v',w',hr,h2,h3,h4⟩:=zbw (P:=P) w base t ty e i z size bytes ht hi hz hsize hby hzs hsz v n xs hown a m c news hl hnews h1 hm h63 hbytes hbase
 refine⟨v',w',hr,h2,h3,h4,?_⟩
 subst hsize;subst hby;have hsmall:n+m<=9223372036854775807:=XM
 rcases hown.2 with⟨rfl,rfl⟩|⟨g,cap,cur,rfl,hbg,hg,hnc,hcm,hcs,htake⟩
 ·have hr':=run_append_nil (P:=P) w t ty e i z ht hi hz a m c news hl hnews hm Ya XL;rw[hr']at hr;cases hr;intro g' hg';cases hg'
  refine zV.of_heap (Za5 w.drew _) ?_
  intro u hu
  rcases Array.mem_append.1 hu with hu|hu
  ·exact hnn _ XZ
  ·exact zkp hzn _ hu
 ·have hcur:∀u∈cur,noI u=true:=by
   intro u hu
   refine zqS fun x ex=>?_
   subst ex;obtain⟨j,hj⟩:=Array.getElem?_of_mem hu;exact hno g rfl j x JX
  by_cases hroom:n+m<=cap
  ·have hfit:n*i.size+news.length<=cur.size:=YU;have hr':=run_append_room (P:=P) w t ty e i ht hi g n cap cur hg a m c news hl hnews h1 hroom hfit;rw[hr']at hr;cases hr;intro g' hg';cases hg';intro o x ee;simp only[World.cell?,World.setRow]at ee;have hgs:=(ZF.1 hg).1;have hmem:∀u∈(cur.toList.take (n*i.size)++news++cur.toList.drop (n*i.size+news.length)),noI u=true:=Eh;have key:∀(u:Value),(cur.toList.take (n*i.size)++news++cur.toList.drop (n*i.size+news.length)).toArray[o]? =some u->noI u=true:=fun u hu=>hmem u JR
   have hcell:(w.setRow g (cur.toList.take (n*i.size)++news++cur.toList.drop (n*i.size+news.length)).toArray).cell? ⟨g,o,none⟩=(cur.toList.take (n*i.size)++news++cur.toList.drop (n*i.size+news.length)).toArray[o]? :=by
    simp[World.cell?,World.setRow,Zbk,hg]
   have:=key (.int .u32 x) (hcell.symm.trans Jl);cases this
  ·have holds:∀j u,xs[j]? =some u->w.cell? ((⟨g,0,none⟩:Addr).add j)=some u:=hown.cells (g:=g) rfl;have hr':=run_append_grow (P:=P) w t ty e i z ht hi hz ⟨g,0,none⟩ n cap xs hown.1 holds a m c news hl hnews Ya Ya (growslice_fits Ya hbytes);rw[hr']at hr;cases hr;intro g' hg';cases hg'
   refine zV.of_heap (Za5 w.drew _) ?_
   intro u hu
   rcases Array.mem_append.1 hu with hu|hu
   ·exact Ek
   ·exact zkp hzn _ hu
structure zin (w:World) (base:Nat) (v:Value) (L:List zaI):Prop where
 ex:∃xs,w.ownsRow base 51 3 v L.length xs/\∀(j:Nat) (x:zaI),L[j]? =some x->∃(an ad:Option Addr) (cn cd:Nat),xs[j*3]? =some (.bool x.neg)/\xs[j*3+1]? =some (.slice an x.num.length cn)/\xs[j*3+2]? =some (.slice ad x.den.length cd)/\
  x.num.length<=cn/\x.den.length<=cd/\zt w an x.num/\zt w ad x.den
 no:NoO w v
theorem zin.nil(w:World)(base:Nat):zin w base (.slice none 0 0) []:=⟨⟨[],Zar _ _ _ _,Yd⟩,VR⟩
theorem zt.grown{a:Option Addr}{v:Value}(h:zt w a l)(hg:w.grownBy w' v.ownBlock)(hn:NoO w v):zt w' a l:=by
 by_cases hl:l=[]
 ·exact I9
 obtain⟨b,off,rfl,hb,hc⟩:=h.open hl;have hp:=ZH.2 hl;have hne:some b≠v.ownBlock:=fun e=>hn b e.symm _ _ (hc 0 hp)
 refine⟨h.lim,h.len,h.row.imp id ?_⟩
 rintro⟨b',off',e,_,hcc⟩;cases e;exact⟨b,off,rfl,Zd hb hg.size,fun j d hj=>(ZR (hg.block b hb hne)).trans (hcc j d hj)⟩
theorem zin.lt{base:Nat}{v:Value}(h:zin w base v L){k:Nat}(hk:v.ownBlock=some k):base<=k/\k<w.heap.size:=by
 obtain⟨xs,ho,_⟩:=h.ex;exact ho.lt k hk
theorem zin.below{base:Nat}{v:Value}(h:zin w base v L)(hb:Below w.heap.size w w'):zin w' base v L:=by
 obtain⟨xs,ho,he⟩:=h.ex
 refine⟨⟨xs,ho.kept (row:=none) ⟨hb.os,hb.tape,hb.output,hb.size,fun k hk _=>hb.block k hk⟩ XR,fun j x hj=>?_⟩,fun g hg=>(h.no g hg).below hb (h.lt hg).2⟩
 obtain⟨an,ad,cn,cd,h1,h2,h3,h4,h5,h6,h7⟩:=he j x hj;exact⟨an,ad,cn,cd,h1,h2,h3,h4,h5,h6.below hb,h7.below hb⟩
theorem zmh{base:Nat}{v:Value}(h:w.ownsRow base T 3 v n xs):∃a c,v=.slice a n c/\n<=c:=T7
theorem zin.rats{base:Nat}{a:Option Addr}{c:Nat}(h:zin w base (.slice a n c) L)(hl:L.length<=9223372036854775807):zN w a L:=by
 obtain⟨xs,ho,he⟩:=h.ex
 rcases ho.2 with⟨e,hn⟩|⟨g,cap,cur,e,hb,hg,hnc,hcm,hcs,htake⟩
 ·exact⟨hl,.inl (ZA hn)⟩
 ·cases e
  refine⟨hl,.inr ⟨g,0,rfl,(ZF.1 hg).1,fun j x hj=>?_⟩⟩
  obtain⟨an,ad,cn,cd,h1,h2,h3,h4,h5,h6,h7⟩:=he j x hj;have k0:=ho.cells (g:=g) rfl _ _ h1;have k1:=ho.cells (g:=g) rfl _ _ h2;have k2:=ho.cells (g:=g) rfl _ _ h3;simp only[Zav]at k0 k1 k2;exact⟨an,ad,cn,cd,k0,k1,k2,an,ad,cn,cd,rfl,h4,h5,h6,h7⟩
theorem zin.app{base:Nat}{v v':Value}{x:zaI}(h:zin w base v L)
 (he:∀(j:Nat) (x:zaI),L[j]? =some x->∃(an ad:Option Addr) (cn cd:Nat),xs[j*3]? =some (.bool x.neg)/\xs[j*3+1]? =some (.slice an x.num.length cn)/\xs[j*3+2]? =some (.slice ad x.den.length cd)/\
   x.num.length<=cn/\x.den.length<=cd/\zt w an x.num/\zt w ad x.den)(hxl:xs.length=L.length*3)
 (h1:x.num.length<=cn)(h2:x.den.length<=cd)(h3:zt w an x.num)(h4:zt w ad x.den)
 (hown:w'.ownsRow base 51 3 v' (L.length+1) (xs++[.bool x.neg,.slice an x.num.length cn,.slice ad x.den.length cd]))(hg:w.grownBy w' v.ownBlock)(hno:NoO w' v'):zin w' base v' (L++[x]):=by
 refine⟨⟨_,VA,fun j y hj=>?_⟩,hno⟩
 by_cases hlt:j<L.length
 ·rw[Zx hlt]at hj;obtain⟨bn,bd,dn,dd,q1,q2,q3,q4,q5,q6,q7⟩:=he j y hj
  refine⟨bn,bd,dn,dd,?_,?_,?_,q4,q5,q6.grown hg h.no,q7.grown hg h.no⟩
  ·rw[Zx Ya];exact q1
  ·rw[Zx Ya];exact q2
  ·rw[Zx Ya];exact q3
 ·have hlt':=(Zu.1 hj).1;simp only[ZB,ZJ,ZaK]at hlt';obtain rfl:j=L.length:=Ya;have e2:y=x:=VN;subst e2
  refine⟨an,ad,cn,cd,?_,?_,?_,h1,h2,h3.grown hg h.no,h4.grown hg h.no⟩
  ·rw[ZG Ya];simp[hxl]
  ·rw[ZG Ya,show L.length*3+1-xs.length=1 from Ya];rfl
  ·rw[ZG Ya,show L.length*3+2-xs.length=2 from Ya];rfl
theorem zjG{P:Program}{w:World}{ops:Array Oper}{rest:List Oper}{o:Oper}{a:Act}{Q:Exit->Act->World->Prop}(hgd:o.guard=none)(s x:Operand)(t:TypeId)
 (ho:o.op=.call { callee:=.builtin .append,args:=#[s,x],argTypes:=#[t,t] })
 (base:Nat)(ht:P.underlying t=some (.slice 51))(hinfo:(P.info? 51).map (fun i=>(i.zero,i.size,i.bytes))=some (some (.agg #[.bool false,.slice none 0 0,.slice none 0 0]),3,56))
 (v:Value)(n:Nat)(L:List zaI)(hn:L.length=n)(hs:a.eval s=v)(hown:zin w base v L)(u:Value)(y:zaI)(hu:zrA w u y)
 (hx:a.eval x=u)(hL:n+1<=2000000000000)(hbase:base<=w.heap.size)
 (h:∀b k w',zin w' base (.slice b (n+1) k) (L++[y])->n+1<=k->w.grownBy w' v.ownBlock->Below base w w'->wpList P ops Q rest (a.put o.dst (.slice b (n+1) k)) w'):
  wpList P ops Q (o::rest) a w:=by
 subst hn
 refine wpList_plain hgd fun K hK=>?_
 obtain⟨i,hi,hz,hsize,hby⟩:=info_parts hinfo;obtain⟨xs,hox,he⟩:=hown.ex;obtain⟨g,an,ad,cn,cd,rfl,hg,c0,c1,c2,h1,h2,h3,h4⟩:=hu.ex;have hcells:∀(j:Nat) (u:Value),[Value.bool y.neg,.slice an y.num.length cn,.slice ad y.den.length cd][j]? =some u->w.cell? (Addr.add ⟨g,0,none⟩ j)=some u:=by
  intro j u hj;rw[Zav]
  match j,hj with
  | 0,hj=>rw[<- hj];exact c0
  | 1,hj=>rw[<- hj];exact c1
  | 2,hj=>rw[<- hj];exact c2
 obtain⟨v',w',hr,r2,r3,r4,r5⟩:=zh2 (P:=P) w base t o.type _ i _ 3 56 ht hi hz hsize hby VL Ya v L.length xs hox ⟨g,0,none⟩ 1 1
  [.bool y.neg,.slice an y.num.length cn,.slice ad y.den.length cd] rfl hcells
  Yp Ya Yh Ya hbase
  hown.no Yp (by intro u hu;simp[Value.cells]at hu;rcases hu with rfl|rfl<;>rfl)
 have hO:=hown.app (x:=y) (w':=w') (v':=v') (xs:=xs) (an:=an) (ad:=ad) (cn:=cn) (cd:=cd) he hox.1 h1 h2 h3 h4 r2 r3 r5;have hbe:Below base w w':=(Zg base w).grown r3 hbase (fun k hk=>(hown.lt hk).1);obtain⟨b,k,e,hk⟩:=zmh r2;subst e;unfold Oper.wp execOp;simp only[ho,resolve,invoke,builtin,Sem.run_bind,Sem.run_pure,Result.andThen_ok,List.map_toArray,ZbB,List.map_nil,hs,hx,hr];exact hK _ _ (h b k w' hO hk r3 hbe)
def zH:List (Nat×Rat)->Nat->Rat
 | [],_=>0
 | (u,q)::r,v=>if u=v then q else zH r v
def zbv:List (Nat×Rat)->Nat->Prop
 | [],_=>True
 | (u,q)::r,lo=>lo<=u/\q≠0/\zbv r (u+1)
def zcH:List (Nat×Rat)->Nat
 | []=>0
 | (u,_)::r=>max (u+1) (zcH r)
theorem zbv.mono:∀{l:List (Nat×Rat)} {lo lo':Nat},zbv l lo->lo'<=lo->zbv l lo'
 | [],_,_,_,_=>trivial
 | (u,q)::r,_,_,⟨h1,h2,h3⟩,h=>⟨Zl h h1,h2,h3⟩
theorem zde:∀{l:List (Nat×Rat)} {lo v:Nat},zbv l lo->v<lo->zH l v=0
 | [],_,_,_,_=>rfl
 | (u,q)::r,lo,v,⟨h1,_,h3⟩,h=>by
  show(if u=v then q else zH r v)=0
  rw[Zh Ya];exact zde h3 Ya
theorem zhz:∀{l:List (Nat×Rat)} {v:Nat},zcH l<=v->zH l v=0
 | [],_,_=>rfl
 | (u,q)::r,v,h=>by
  have h':max (u+1) (zcH r)<=v:=h;show(if u=v then q else zH r v)=0
  rw[Zh Ya];exact zhz Ya
theorem zii:∀{l m:List (Nat×Rat)} {lo lo':Nat},zbv l lo->zbv m lo'->(∀v,zH l v=zH m v)->l=m
 | [],[],_,_,_,_,_=>rfl
 | [],(u,q)::r,_,_,_,⟨_,h2,_⟩,h=>by
  have:=h u;have e:zH ((u,q)::r) u=q:=X0;rw[e]at this;exact absurd this.symm h2
 | (u,q)::r,[],_,_,⟨_,h2,_⟩,_,h=>by
  have:=h u;have e:zH ((u,q)::r) u=q:=X0;rw[e]at this;exact absurd this h2
 | (u,q)::r,(u',q')::r',lo,lo',⟨a1,a2,a3⟩,⟨b1,b2,b3⟩,h=>by
  have e1:zH ((u,q)::r) u=q:=X0;have e2:zH ((u',q')::r') u'=q':=by show(if u'=u' then q' else _)=q';rw[Zq rfl]
  have hu:u=u':=by
   rcases Zbr u u' with k|k|k
   ·have:=h u;rw[e1]at this;have z:zH ((u',q')::r') u=0:=by
     show(if u'=u then q' else zH r' u)=0
     rw[Zh Ya];exact zde b3 Ya
    rw[z]at this;exact absurd this a2
   ·exact k
   ·have:=h u';rw[e2]at this;have z:zH ((u,q)::r) u'=0:=by
     show(if u=u' then q else zH r u')=0
     rw[Zh Ya];exact zde a3 Ya
    rw[z]at this;exact absurd this.symm b2
  subst hu;have hq:q=q':=by have:=h u;rw[e1,e2]at this;exact this
  subst hq;have hr:r=r':=zii a3 b3 (fun v=>by
   by_cases k:u=v
   ·subst k;rw[zde a3 Ya,zde b3 Ya]
   ·have:=h v;have f1:zH ((u,q)::r) v=zH r v:=Jm;have f2:zH ((u,q)::r') v=zH r' v:=Jm;rw[f1,f2]at this;exact this)
  rw[hr]
def ofC(fn:Nat->Rat)(lo:Nat):Nat->List (Nat×Rat)
 | 0=>[]
 | n+1=>if fn lo=0 then ofC fn (lo+1) n else(lo,fn lo)::ofC fn (lo+1) n
theorem zjy(fn:Nat->Rat):∀(n lo:Nat),zbv (ofC fn lo n) lo
 | 0,_=>trivial
 | n+1,lo=>by
  show zbv (if fn lo=0 then ofC fn (lo+1) n else(lo,fn lo)::ofC fn (lo+1) n) lo
  split
  ·exact(zjy fn n (lo+1)).mono Ya
  ·rename_i h;exact⟨Za _,h,zjy fn n (lo+1)⟩
theorem zhF(fn:Nat->Rat):∀(n lo v:Nat),zH (ofC fn lo n) v=if lo<=v/\v<lo+n then fn v else 0
 | 0,lo,v=>by rw[Zh Ya];rfl
 | n+1,lo,v=>by
  show zH (if fn lo=0 then ofC fn (lo+1) n else(lo,fn lo)::ofC fn (lo+1) n) v=_
  by_cases hz:fn lo=0
  ·rw[Zq hz,zhF fn n (lo+1) v]
   by_cases k:lo=v
   ·subst k;rw[Zh Ya,Zq Ya,hz]
   ·exact Ih
  ·rw[Zh hz];show(if lo=v then fn lo else zH (ofC fn (lo+1) n) v)=_
   by_cases k:lo=v
   ·subst k;rw[Zq rfl,Zq Ya]
   ·rw[Zh k,zhF fn n (lo+1) v];exact Ih
structure zl where
 ts:List (Nat×Rat)
 c:Rat
def zl.Can(f:zl):Prop:=zbv f.ts 0
def zeQ(k:Rat)(f g:List (Nat×Rat)):List (Nat×Rat):=ofC (fun v=>zH f v+k*zH g v) 0 (max (zcH f) (zcH g))
def za2(k:Rat)(f g:zl):zl:=⟨zeQ k f.ts g.ts,f.c+k*g.c⟩
def zbq:zl:=⟨[],0⟩
def za4(v:Nat):zl:=⟨[(v,1)],0⟩
def zkq(q:Rat):zl:=⟨[],q⟩
theorem zdk(k:Rat)(f g:List (Nat×Rat)):zbv (zeQ k f g) 0:=zjy _ _ _
theorem zat(k:Rat)(f g:List (Nat×Rat))(v:Nat):zH (zeQ k f g) v=zH f v+k*zH g v:=by
 unfold zeQ;rw[zhF]
 split
 ·rfl
 ·rename_i h
  have e1:zH f v=0:=zhz Ya;have e2:zH g v=0:=zhz Ya;rw[e1,e2,Rat.mul_zero,Zbn]
theorem zfg{f g l:List (Nat×Rat)}(h:zbv l lo)(e:∀v,zH l v=zH f v+k*zH g v):l=zeQ k f g:=zii h (zdk k f g) (fun v=>by rw[e,zat])
theorem zbz(k:Rat)(f g:zl):(za2 k f g).Can:=zdk _ _ _
theorem zd4:zbq.Can:=trivial
theorem zkn(q:Rat):(zkq q).Can:=trivial
theorem zeI(v:Nat):(za4 v).Can:=⟨Zs _,Yb,trivial⟩
theorem zeD:∀{l m:List (Nat×Rat)} {v lo:Nat},zbv m lo->zcH l<=lo->zH (l++m) v=zH l v+zH m v
 | [],m,v,lo,_,_=>by rw[ZaP];show zH m v=0+zH m v;rw[Za0]
 | (u,q)::r,m,v,lo,h,ht=>by
  have ht':max (u+1) (zcH r)<=lo:=ht;show(if u=v then q else zH (r++m) v)=(if u=v then q else zH r v)+zH m v
  by_cases k:u=v
  ·rw[Zq k,Zq k,zde h Ya,Zbn]
  ·rw[Zh k,Zh k];exact zeD h Ya
theorem zgj:∀{l m:List (Nat×Rat)} {lo lo':Nat},zbv l lo->zbv m lo'->zcH l<=lo'->lo<=lo'->zbv (l++m) lo
 | [],m,lo,lo',_,h,_,hl=>h.mono hl
 | (u,q)::r,m,lo,lo',⟨h1,h2,h3⟩,h,ht,hl=>by
  have ht':max (u+1) (zcH r)<=lo':=ht;exact⟨h1,h2,zgj h3 h Ya Ya⟩
theorem znN:∀(l m:List (Nat×Rat)),zcH (l++m)=max (zcH l) (zcH m)
 | [],m=>by show zcH m=max 0 (zcH m);omega
 | (u,q)::r,m=>by
  show max (u+1) (zcH (r++m))=max (max (u+1) (zcH r)) (zcH m)
  rw[znN r m];omega
def zca(l:List (Nat×Rat))(v:Nat)(q:Rat):List (Nat×Rat):=if q=0 then l else l++[(v,q)]
theorem zgb{l:List (Nat×Rat)}{v:Nat}{q:Rat}(ht:zcH l<=v)(u:Nat):zH (zca l v q) u=zH l u+(if v=u then q else 0):=by
 unfold zca
 split
 ·rename_i h;rw[h];split<;>rw[Zbn]
 ·rename_i h
  rw[zeD (m:=[(v,q)]) (lo:=v) ⟨Za _,h,trivial⟩ ht];rfl
theorem zih{l:List (Nat×Rat)}{v:Nat}{q:Rat}(h:zbv l 0)(ht:zcH l<=v):zbv (zca l v q) 0:=by
 unfold zca
 split
 ·exact h
 ·rename_i hq;exact zgj h (lo':=v) ⟨Za _,hq,trivial⟩ ht (Zs _)
theorem zhG{l:List (Nat×Rat)}{v:Nat}{q:Rat}(ht:zcH l<=v):zcH (zca l v q)<=v+1:=by
 unfold zca
 split
 ·omega
 ·rw[znN];show max (zcH l) (max (v+1) 0)<=v+1;omega
structure zjD (k:Rat) (f g out a b:List (Nat×Rat)) (lo:Nat):Prop where
 can:zbv out 0
 top:zcH out<=lo
 ca:zbv a lo
 cb:zbv b lo
 eq:∀v,zH out v+(zH a v+k*zH b v)=zH f v+k*zH g v
theorem zjD.start{f g:List (Nat×Rat)}(hf:zbv f 0)(hg:zbv g 0):zjD k f g [] f g 0:=
 ⟨trivial,Za _,hf,hg,fun v=>by show 0+_=_;rw[Za0]⟩
theorem zbg(u:Nat)(q:Rat)(r:List (Nat×Rat)){lo:Nat}(h:zbv r (u+1))(v:Nat):zH ((u,q)::r) v=(if u=v then q else 0)+zH r v:=by
 show(if u=v then q else zH r v)=_
 by_cases k:u=v
 ·rw[Zq k,Zq k,zde h Ya,Zbn]
 ·rw[Zh k,Zh k,Za0]
theorem zjD.left{f g a b:List (Nat×Rat)}{u:Nat}{q:Rat}(h:zjD k f g out ((u,q)::a) b lo)(hb:zbv b (u+1)):zjD k f g (zca out u q) a b (u+1):=by
 obtain⟨h1,h2,⟨a1,a2,a3⟩,h4,h5⟩:=h
 refine⟨zih h1 Ya,zhG Ya,a3,hb,fun v=>?_⟩
 rw[zgb Ya,<- h5 v,zbg u q a (lo:=0) a3 v]
 grind
theorem zjD.right{f g a b:List (Nat×Rat)}{u:Nat}{q:Rat}(h:zjD k f g out a ((u,q)::b) lo)(ha:zbv a (u+1)):zjD k f g (zca out u (q*k)) a b (u+1):=by
 obtain⟨h1,h2,h3,⟨b1,b2,b3⟩,h5⟩:=h
 refine⟨zih h1 Ya,zhG Ya,ha,b3,fun v=>?_⟩
 rw[zgb Ya,<- h5 v,zbg u q b (lo:=0) b3 v]
 split<;>grind
theorem zjD.both{f g a b:List (Nat×Rat)}{u:Nat}{p q:Rat}(h:zjD k f g out ((u,p)::a) ((u,q)::b) lo):zjD k f g (zca out u (p+q*k)) a b (u+1):=by
 obtain⟨h1,h2,⟨a1,a2,a3⟩,⟨b1,b2,b3⟩,h5⟩:=h
 refine⟨zih h1 Ya,zhG Ya,a3,b3,fun v=>?_⟩
 rw[zgb Ya,<- h5 v,zbg u p a (lo:=0) a3 v,zbg u q b (lo:=0) b3 v]
 split<;>grind
theorem zjD.done{k:Rat}{f g out:List (Nat×Rat)}{lo:Nat}(h:zjD k f g out [] [] lo):out=zeQ k f g:=
 zfg h.can (fun v=>by
  rw[<- h.eq v];show _=zH out v+(0+k*0)
  grind)
def zeL(x:List Rat):List (Nat×Rat)->Rat
 | []=>0
 | (u,q)::r=>q*x.getD u 0+zeL x r
def zhJ(fn:Nat->Rat)(lo:Nat):Nat->Rat
 | 0=>0
 | n+1=>fn lo+zhJ fn (lo+1) n
theorem zgB{fn:Nat->Rat}:∀(n lo:Nat),(∀v,lo<=v->v<lo+n->fn v=0)->zhJ fn lo n=0
 | 0,_,_=>rfl
 | n+1,lo,h=>by
  show fn lo+zhJ fn (lo+1) n=0
  rw[h lo (Za _) Ya,zgB n (lo+1) (fun v a b=>h v Ya Ya),Zbn]
theorem zfm{fn gn:Nat->Rat}:∀(n lo:Nat),(∀v,lo<=v->v<lo+n->fn v=gn v)->zhJ fn lo n=zhJ gn lo n
 | 0,_,_=>rfl
 | n+1,lo,h=>by
  show fn lo+zhJ fn (lo+1) n=gn lo+zhJ gn (lo+1) n
  rw[h lo (Za _) Ya,zfm n (lo+1) (fun v a b=>h v Ya Ya)]
theorem zhU{fn gn:Nat->Rat}(k:Rat):∀(n lo:Nat),zhJ (fun v=>fn v+k*gn v) lo n=zhJ fn lo n+k*zhJ gn lo n
 | 0,_=>by show(0:Rat)=0+k*0;grind
 | n+1,lo=>by
  show(fn lo+k*gn lo)+zhJ (fun v=>fn v+k*gn v) (lo+1) n=(fn lo+zhJ fn (lo+1) n)+k*(gn lo+zhJ gn (lo+1) n)
  rw[zhU k n (lo+1)]
  grind
theorem zgp{fn:Nat->Rat}{u:Nat}:∀(n lo:Nat),lo<=u->u<lo+n->(∀v,v≠u->fn v=0)->zhJ fn lo n=fn u
 | 0,lo,h1,h2,_=>by omega
 | n+1,lo,h1,h2,h=>by
  show fn lo+zhJ fn (lo+1) n=fn u
  by_cases k:lo=u
  ·subst k;rw[zgB n (lo+1) (fun v a _=>h v Ya),Zbn]
  ·rw[h lo k,Za0];exact zgp n (lo+1) Ya Ya h
theorem zeG(x:List Rat):∀{l:List (Nat×Rat)} {lo:Nat} (N:Nat),zbv l lo->zcH l<=N->zeL x l=zhJ (fun v=>zH l v*x.getD v 0) 0 N
 | [],lo,N,_,_=>by
  rw[zgB N 0 (fun v _ _=>by show(0:Rat)*_=0;rw[Rat.zero_mul])];rfl
 | (u,q)::r,lo,N,⟨h1,h2,h3⟩,ht=>by
  have ht':max (u+1) (zcH r)<=N:=ht;show q*x.getD u 0+zeL x r=_
  rw[zeG x N h3 Ya];have e:zhJ (fun v=>zH ((u,q)::r) v*x.getD v 0) 0 N=zhJ (fun v=>(if u=v then q else 0)*x.getD v 0+1*(zH r v*x.getD v 0)) 0 N:=
   zfm N 0 (fun v _ _=>by rw[zbg u q r (lo:=0) h3 v];grind)
  have key:=zhU (fn:=fun v=>(if u=v then q else 0)*x.getD v 0) (gn:=fun v=>zH r v*x.getD v 0) 1 N 0;have s1:zhJ (fun v=>(if u=v then q else 0)*x.getD v 0) 0 N=q*x.getD u 0:=by
   rw[zgp (fn:=fun v=>(if u=v then q else 0)*x.getD v 0) (u:=u) N 0 (Zs _) Ya (fun v hv=>by rw[Zh (fun h=>hv h.symm),Rat.zero_mul])];simp
  rw[e,key,s1,Zbm]
def zW(x:List Rat)(f:zl):Rat:=f.c+zeL x f.ts
theorem zcp(x:List Rat)(k:Rat){f g:zl}(hf:f.Can)(hg:g.Can):zW x (za2 k f g)=zW x f+k*zW x g:=by
 unfold zW;have e:zeL x (zeQ k f.ts g.ts)=zeL x f.ts+k*zeL x g.ts:=by
  obtain⟨N,hN⟩:∃N,N=max (zcH f.ts) (max (zcH g.ts) (zcH (zeQ k f.ts g.ts))):=⟨_,rfl⟩
  rw[zeG x N (zdk k f.ts g.ts) Ya,zeG x N hf Ya,zeG x N hg Ya,<- zhU k]
  refine zfm N 0 (fun v _ _=>?_)
  show zH (zeQ k f.ts g.ts) v*x.getD v 0=zH f.ts v*x.getD v 0+k*(zH g.ts v*x.getD v 0)
  rw[zat]
  grind
 show f.c+k*g.c+zeL x (zeQ k f.ts g.ts)=(f.c+zeL x f.ts)+k*(g.c+zeL x g.ts)
 rw[e]
 grind
theorem zjd(x:List Rat)(v:Nat):zW x (za4 v)=x.getD v 0:=by
 show(0:Rat)+(1*x.getD v 0+0)=_
 grind
theorem zl4(x:List Rat)(q:Rat):zW x (zkq q)=q:=by
 show q+0=q
 grind
theorem zsp{v:Value}(hv:zcE w v n1 x k1)(hu:zcE w u n2 y k2)(hy:0<y)(hr1:k1<=2097152)(hr2:k2<=2097152):
  Calls Tryz.prog 132 #[v,u] w (zlC w (zh (mkRat (sgn (n1 != n2) x) y)) 0):=by
 have HU:=hid hu;obtain⟨a,c,l,rfl,h1,h2,h3,h4⟩:=hv.ex;obtain⟨b,d,m,rfl,g1,g2,g3,g4⟩:=hu.ex;have hl1:=h2.len;have hl2:=g2.len;obtain⟨HQ,H2,G2,H3,G3,HY⟩:=hd6 (zbU (n1 != n2) x hy) h2 g2 h3 g3 hy;have hz:(zcD n2 y==0)=false:=by
  rw[Z7];unfold zcD;rw[Zh Ya]
  split<;>omega
 clear hv hu h2 g2 h3 g3 hy
 go_enter Tryz.func132,Tryz.ntmps132
 go_wp2_with fail
 have hF:=zjr.mk' w (.bool n1) (.slice a l.length c) (.bool n2) (.slice b m.length d) 89 51;generalize((w.alloc (.cells #[.bool n1,.slice a l.length c] 89)).alloc (.cells #[.bool n2,.slice b m.length d] 89)).alloc (zeP 51)=W0 at *;obtain⟨HS,HF0⟩:=hd2 (zq2 (HU.out.below hF.bl) Ya) hF;clear hF
 refine HS.out.mono ?_
 rintro e W ⟨rfl,hbW⟩;have HF:=hid (HF0.out.below' hbW);generalize zcD n2 y=sq at *;clear HS HF0 hbW HU;obtain⟨x0,x1,_,xlt⟩:=HF.out.a;obtain⟨y0,y1,_,ylt⟩:=HF.out.b;have hC:=zl5 (n1 != n2) c d h1 g1 (H2.out.below HF.out.bl) (G2.out.below HF.out.bl) H3.out G3.out Ya Ya HY.out;rw[HQ.out]at hC;have HC:=hid hC;clear hC H2 G2
 go_wp2_with fail
 refine HC.out.mono ?_
 rintro e w5 ⟨v5,rfl,⟨bn',bd',m1,m2,rfl,k3,k4,k5,k6⟩,k2⟩;obtain⟨r0,r1,r2,rf,rlt⟩:=HF.out.c.below k2;obtain⟨hN5,K5,K6,hB5⟩:=hd4 (HF.out.nc.below k2 HF.out.c.lt) k5 k6 (HF.out.bl.trans (k2.mono Yy));clear HC k5 k6 k2 x0 x1 xlt y0 y1 ylt hz;generalize zh (mkRat (sgn (n1 != n2) x) y)=R at *;go_wp2;exact Zr (v:=.tuple #[.agg #[.bool R.neg,.slice bn' R.num.length m1,.slice bd' R.den.length m2],.int .i64 0]) (by simp[results,Tryz.results132,go_sem,r0,r1,r2]) rfl ⟨_,rfl,RatV.store hN5.out k3 k4 K5.out K6.out,zS hB5.out Ya _ _ _⟩
