/-
  Contracts: LjJ, RgA, RgB, RgC, RgD, RgE, RgF, RgG, RiA, LqC, LqE.
-/
import Derived.Test.YtfgmmghmmfmdgaaGreatO27
import Derived.Test.YtfgmmghmmfmdgaaGreatO0
set_option linter.all false
set_option maxRecDepth 100000
set_option maxHeartbeats 3200000
namespace Go.Proofs.YtfgmmghmmfmdgaaGreat
open Go.RowKit
open Go.Lib (hid)
theorem OB{P:Prop}(h:P:=by
 try simp only[hL]
 clear hL;exact Og
):P:=h
theorem Oa{P:Prop}(h:P:=by simp[ze,Act.put];obtain⟨HJ,HV,HP,HD⟩:=hd4 hJ hV hp hdeps;clear hdeps hJ hV hp hd hW;exact Uy):P:=h
theorem Oc{P:Prop}(h:P:=by have J1:=hJ.all 1 h1;simp only[GU,Zf,Zc]at J1;simp[ze,Act.put];generalize hg1:y' 1=y1;rw[hg1]at J1;clear hg1;obtain rfl:=J1;obtain⟨HJ,HV,HP,HD⟩:=hd4 hJ hV hp hdeps;clear hdeps hJ hV hp hd hW h1;exact Uy):P:=h
theorem Od{P:Prop}(h:P:=by have J2:=hJ.all 2 h2;simp only[GU,Zf,Zc]at J2;simp[ze,Act.put];generalize hg2:y' 2=y2;rw[hg2]at J2;clear hg2;obtain rfl:=J2;obtain⟨HJ,HV,HP,HD⟩:=hd4 hJ hV hp hdeps;clear hdeps hJ hV hp hd hW h2;exact Uy):P:=h
theorem Oe{P:Prop}(h:P:=by have J3:=hJ.all 3 h3;simp only[GU,Zf,Zc]at J3;simp[ze,Act.put];generalize hg3:y' 3=y3;rw[hg3]at J3;clear hg3;obtain rfl:=J3;obtain⟨HJ,HV,HP,HD⟩:=hd4 hJ hV hp hdeps;clear hdeps hJ hV hp hd hW h3;exact Uy):P:=h
theorem Og{P:Prop}(h:P:=by have HR:=hid hR;clear hR;exact U6):P:=h
theorem O4{P:Prop}(h:P:=by
 go_wp2;go_roundw
 case rel=>exact⟨j+1,hlt,Yg,HBN.out⟩
 case measure=>simp[intOf];omega
):P:=h
theorem Up{P:Prop}(h:P:=by
 go_wp2_with fail
 refine HCt.out.mono ?_
 rintro e w1 ⟨v1,rfl,kv,kb⟩;obtain⟨KV,KB⟩:=hd2 kv kb;clear kv kb HCt;go_wp2
 first|refine⟨_,rfl,?_⟩|skip
 exact⟨(HR.out.gp KB.out),KB.out,KV.out⟩
):P:=h
theorem Uy{P:Prop}(h:P:=by
 go_wp2
 first|refine⟨_,rfl,?_⟩|refine⟨rfl,_,?_⟩|skip
 exact HV.out.on HD.out HP.out (HJ.out.here Yd rfl)
):P:=h
theorem U6{P:Prop}(h:P:=by
 go_wp2
 first|refine⟨_,rfl,?_⟩|skip
 exact⟨HR.out,Ze _ _,rfl⟩
):P:=h
theorem Tr{P:Prop}(h:P:=by subst e;rw[zgi];rcases hi with⟨e,rfl⟩|⟨e,rfl⟩|⟨e,rfl⟩|⟨e,rfl⟩<;>first|rfl|(exfalso;omega)):P:=h
theorem Tt{P:Prop}(h:P:=by
 refine wpQuiet_nil ?_
 intro _ hw';obtain⟨nq,hw''⟩:=hw';subst hw'';have HBN:=hid (HBj.out.trans ((zF wj nq).mono HBj.out.size));generalize ext wj nq=w5 at *;exact O4
):P:=h
theorem Tv{P:Prop}(h:P:=by
 simp[ze,Act.put];obtain⟨HV,HP,HAl,HPo⟩:=hd4 hV hp hal hPo;clear hV hp hal hPo hd hW;go_wp2
 first|exact⟨_,rfl,HV.out.late Yd Yc HP.out HAl.out HPo.out⟩|exact HV.out.late Yd Yc HP.out HAl.out HPo.out
):P:=h
theorem Ev{P:Prop}(h:P:=by go_wp2;refine Zp (v:=.tuple #[.agg #[.int .i64 0,.slice none 0 0,.slice none 0 0],.int .i64 8]) Y7 rfl ?_;exact zeG HF.out HB2.out gge):P:=h
theorem Il{P:Prop}(h:P:=by
 go_wp2
 first|refine⟨_,rfl,?_⟩|skip
 exact⟨HR.out,Ze _ _,_,_,_,rfl,HRC.out⟩
):P:=h
theorem Ir{P:Prop}(h:P:=by
 first|exact⟨_,rfl,HV.out.app Yd HAl.out Yc HPost.out⟩|exact HV.out.app Yd HAl.out Yc HPost.out
):P:=h
theorem Ix{P:Prop}(h:P:=by
 go_roundw
 case rel=>exact⟨j+1,hlt,Yg,HSt.out⟩
 case measure=>simp[intOf];omega
):P:=h
theorem ID{P:Prop}(h:P:=by rw[zaJ Yd]at k;rw[zfg Yd];exact h.v1 k):P:=h
theorem IE{P:Prop}(h:P:=by rw[zaJ Yd]at k;rw[zfg Yd];exact h.v2 k):P:=h
theorem IF{P:Prop}(h:P:=by rw[zaJ Yd]at k;rw[zfg Yd];exact h.v4 k):P:=h
theorem IG{P:Prop}(h:P:=by rw[zaJ Yd]at k;rw[zfg Yd];exact h.v5 k):P:=h
theorem Y7{P:Prop}(h:P:=by simp[results,Tryz.results12,go_sem,g0,g1,g2]):P:=h
theorem Xp{P:Prop}(h:P:=by simp[results,Tryz.results79,go_sem,r0,r1,r2,r3,rlt,Zbc rlt]):P:=h
theorem Vd{P:Prop}(h:P:=by simp[results,Tryz.results81,go_sem]):P:=h
theorem zpv(w:World)(T:Nat):w.heap.size<(w.alloc (.cells #[.int .i64 0,.slice none 0 0,.slice none 0 0] T)).heap.size/\(∀i,(w.alloc (.cells #[.int .i64 0,.slice none 0 0,.slice none 0 0] T)).frozen? ⟨w.heap.size,i,none⟩=false)/\
  (w.alloc (.cells #[.int .i64 0,.slice none 0 0,.slice none 0 0] T)).cell? ⟨w.heap.size,0,none⟩=some (.int .i64 0)/\(w.alloc (.cells #[.int .i64 0,.slice none 0 0,.slice none 0 0] T)).cell? ⟨w.heap.size,1,none⟩=some (.slice none 0 0)/\(w.alloc (.cells #[.int .i64 0,.slice none 0 0,.slice none 0 0] T)).cell? ⟨w.heap.size,2,none⟩=some (.slice none 0 0):=
 ⟨Yc,fun i=>Za2 _ _ _ _,by rw[World.cell?_alloc_at _ _ _ _ rfl];rfl,by rw[World.cell?_alloc_at _ _ _ _ rfl];rfl,by rw[World.cell?_alloc_at _ _ _ _ rfl];rfl⟩
structure zqx (w W:World) (g:Nat) (p0 p1 p2:Value):Prop where
 c0:W.cell? ⟨g,0,none⟩=some p0
 c1:W.cell? ⟨g,1,none⟩=some p1
 c2:W.cell? ⟨g,2,none⟩=some p2
 free:∀i,W.frozen? ⟨g,i,none⟩=false
 lt:g<W.heap.size
 ge:w.heap.size<=g
 al:zbC ziY W g
theorem zqx.belowB{w W W':World}{g B:Nat}{p0 p1 p2:Value}(h:zqx w W g p0 p1 p2)(hb:Below B W W')(hg:g<B):zqx w W' g p0 p1 p2:=
 ⟨(hb.cell (p:=⟨g,0,none⟩) hg).trans h.c0,(hb.cell (p:=⟨g,1,none⟩) hg).trans h.c1,(hb.cell (p:=⟨g,2,none⟩) hg).trans h.c2,fun i=>(hb.frozen (p:=⟨g,i,none⟩) hg).trans (h.free i),Zb h.lt hb.size,h.ge,h.al.belowB hb hg⟩
theorem zqx.below{w W W':World}{g:Nat}{p0 p1 p2:Value}(h:zqx w W g p0 p1 p2)(hb:Below W.heap.size W W'):zqx w W' g p0 p1 p2:=h.belowB hb h.lt
theorem ze4{w W:World}{g:Nat}(hb:Below w.heap.size w W)(hg:w.heap.size<=g)(p0 p1 p2:Value):Below w.heap.size w (((W.setCell ⟨g,0,none⟩ p0).setCell ⟨g,1,none⟩ p1).setCell ⟨g,2,none⟩ p2):=
 ((hb.setCell (p:=⟨g,0,none⟩) hg _).setCell (p:=⟨g,1,none⟩) hg _).setCell (p:=⟨g,2,none⟩) hg _
def zrj(W1:World)(s:List Int)(s7:Value)(wx:World):Prop:=W1=wx/\∃a c n,s7=.slice a n c/\n=s.length/\zah W1 Any a s
def zt6(w1:World)(gG gL n k:Nat)(S:zdp)(U:List zl)(Y:List (List zl))(ax:Option Addr)(X:List zl)(v:Value)(W:World):Prop:=∃b c,v=.slice b (k+2) c/\LwB w1 gG gL n W S.fn U (.slice b (k+2) c) (Y++[X]) ax X
def zud(w1:World)(gG gL n k:Nat)(S:zdp)(v:Value)(W:World):Prop:=∃b c,v=.slice b (k+1) c/\zgG gG W (gL+1) (.slice b (k+1) c) (zq (k+1))/\LwB w1 gG gL n W S.fn [] (.slice none 0 0) [] b (zq (k+1))
theorem zeG{w W:World}{R:zd6×Int}{e:Int}{g:Nat}(h:R=(zed,e))(hb:Below w.heap.size w W)(hg:w.heap.size<=g):
  ziS w R (.returned (.tuple #[.agg #[.int .i64 0,.slice none 0 0,.slice none 0 0],.int .i64 e])) (((W.setCell ⟨g,0,none⟩ (.int .i64 0)).setCell ⟨g,1,none⟩ (.slice none 0 0)).setCell ⟨g,2,none⟩ (.slice none 0 0)):=by
 subst h;exact⟨_,rfl,zmk _,ze4 hb hg _ _ _⟩
attribute [local go_sem] run_storeF
theorem zqu{w:World}{m:zec}{a1 a2:Option Addr}(c1 c2:Nat)(h1:zah w Any a1 m.input)(h2:zaK w a2 m.layers)(hr:∀l∈m.layers,zQ l)(hs:∀l∈m.layers,zbF l)(hsm:∀l∈m.layers,zbN l)(hl12:m.layers.length<=12):
  Calls Tryz.prog 12 #[.agg #[.slice a1 m.input.length c1,.slice a2 m.layers.length c2]] w (ziS w (zch m)):=by
 have q1:=h1.len;have q2:=h2.len;obtain⟨H1,H2,HRg,HSh,HSm⟩:=hd5 h1 h2 hr hs hsm;generalize hR:zch m=RR;unfold zch at hR;have HRd:=hid hR;clear h1 h2 hr hs hR hsm
 go_enter Tryz.func12,Tryz.ntmps12
 go_upto_region 1 with fail
 have hb0:=blA w (.cells #[.slice a1 m.input.length c1,.slice a2 m.layers.length c2] 25);have hx:=za1.alloc w (.slice a1 m.input.length c1) (.slice a2 m.layers.length c2) 25;have hs0:(w.alloc (.cells #[.slice a1 m.input.length c1,.slice a2 m.layers.length c2] 25)).heap.size=w.heap.size+1:=Yc;generalize w.alloc (.cells #[.slice a1 m.input.length c1,.slice a2 m.layers.length c2] 25)=W0 at *;have hb1:=blA W0 (.cells #[.int .i64 0,.slice none 0 0,.slice none 0 0] 30);obtain⟨z1,z2,z3,z4,z5⟩:=zpv W0 30;have hgb:zqx w (W0.alloc (.cells #[.int .i64 0,.slice none 0 0,.slice none 0 0] 30)) (w.heap.size+1) (.int .i64 0) (.slice none 0 0) (.slice none 0 0):=by
  rw[<- hs0];exact⟨z3,z4,z5,z2,z1,Ya,zbC.of_heap (Za8 W0 _) Yp⟩
 have hx:=hx.below hb1;have hbw:Below w.heap.size w (W0.alloc (.cells #[.int .i64 0,.slice none 0 0,.slice none 0 0] 30)):=hb0.trans (hb1.mono Ya);generalize W0.alloc (.cells #[.int .i64 0,.slice none 0 0,.slice none 0 0] 30)=W at *;clear hb0 hb1 z1 z2 z3 z4 z5 hs0;obtain⟨HB0,HX,HGb⟩:=hd3 hbw hx hgb;clear hbw hgb;obtain⟨x0,x1,xf,xlt⟩:=hx
 go_wp2_with fail
 refine(sOf c1 c2 (H1.out.below HB0.out) (H2.out.below HB0.out) HRg.out HSh.out).mono ?_
 rintro e w1 ⟨⟨aS,cS,rfl,hI⟩,hb1⟩;obtain⟨HX1,HG1⟩:=hd2 (HX.out.below hb1) (HGb.out.below hb1);have HB1:=htr HB0 hb1;clear hb1 x0 x1 xf xlt HGb HX HB0
 by_cases he:(zI m).2.2=0
 ·have HCO:=hid (zhp.of he)
  rcases zaA m with⟨_,k⟩|⟨hvm,⟨T,hch,hT⟩|⟨k,_⟩⟩
  ·rw[k]at he;simp at he
  ·rw[hT]at hI HRd HCO⊢;rw[Zm rfl]at HRd;simp only at hI HRd HCO⊢;obtain⟨HI,HCh,HTl⟩:=hd3 hI hch hch.1;have hT64:T.length<=64:=by rw[HCO.out.len];exact HCO.out.few
   obtain⟨HSz,HCn⟩:=hd2 (fun X (hb:Below w1.heap.size w1 X)=>znR c1 ((H1.out.below HB1.out).below hb)) (fun X (hb:Below w1.heap.size w1 X)=>zuv c2 cS ((H2.out.below HB1.out).below hb) (hI.below hb) HCO.out);obtain⟨x0,x1,xf,xlt⟩:=HX1.out;have hvi:zk m.input=true:=by
    unfold zbe at hvm;simp only[Zu]at hvm;exact hvm.1
   have hin:=zae hvi;have HVi:=hid hvi;clear he hI hch hT hvm hvi;obtain⟨last,hlast⟩:∃last,last=zh m.input T:=⟨_,rfl⟩
   obtain⟨HLast,HSi⟩:=hd2 hlast ((H1.out.below HB1.out).mono (F':=Any) (fun _ _ _=>trivial));clear hlast
   go_upto_if 27 with fail
   go_cut [7] (fun s7 wx=>zrj w1 last s7 wx)
   case first=>
    by_cases hT0:T.length=0
    ·have q0:decide ((0:Int)<(T.length:Int))=false:=Zj Ya;have E:Hid (last=m.input):=by
      unfold Hid;rw[HLast.out,Zy hT0];rfl
     go_wp2
     go_meet
     exact⟨rfl,a1,c1,_,rfl,by rw[E.out],by rw[E.out];exact HSi.out⟩
    ·have q0:decide ((0:Int)<(T.length:Int))=true:=Zk Ya;obtain⟨nT,hnT⟩:∃nT,nT=T.length-1:=⟨_,rfl⟩
     obtain⟨bT,oT,t,aT,ct,haT,tc0,hTi,htc,hIt,hbT,_⟩:=HI.out.pickc (k:=nT) Ya;have E:Hid (last=t):=by
      unfold Hid;rw[HLast.out];unfold zh;rw[Zah,<- hnT,hTi];rfl
     have HIt:=hid (hIt.mono (F':=Any) (fun _ _ _=>trivial));have m0:(T.length:Int)-1=(nT:Int):=Ya;have hnl:nT<T.length:=Ya;subst haT;clear hIt hTi htc hnT;go_wp2
     go_meet
     exact⟨rfl,aT,ct,_,rfl,by rw[E.out],by rw[E.out];exact HIt.out⟩
   case rest=>
    obtain⟨rfl,aL,cL,nL,rfl,hnL,hIL⟩:=hcut;subst hnL;obtain⟨HSz1,HCn1⟩:=hd2 (HSz.out w1 (Ze _ _)) (HCn.out w1 (Ze _ _));have HRd2:=HRd.out;rw[<- HLast.out]at HRd2;obtain⟨nin,hnin⟩:∃nin,nin=zt m.input:=⟨_,rfl⟩
    obtain⟨nun,hnun⟩:∃nun,nun=zhn m.layers T:=⟨_,rfl⟩
    obtain⟨nout,hnout⟩:∃nout,nout=zt last:=⟨_,rfl⟩
    have HSzL:=hid (fun X (hb:Below w1.heap.size w1 X)=>znR cL (hIL.below hb));rw[<- hnin]at HSz1 HRd2 hin;rw[<- hnun]at HCn1 HRd2;rw[<- hnout]at HSzL HRd2;obtain⟨HRd3,HNin,HNun,HNout⟩:=hd4 HRd2 hnin hnun hnout;clear HRd HRd2 hnin hnun hnout HCn hIL;obtain⟨g0,g1,g2,gf,glt,gge,_⟩:=HG1.out
    by_cases ha:256<nin
    ·have qa:decide ((256:Int)<nin)=true:=Zk ha;have HF:Hid (RR=(zed,8)):=by
      have h:=HRd3.out;rw[Zm (.inl ha)]at h;exact h.symm
     clear ha HRd3
     go_wp2_with fail
     refine HSz1.out.mono ?_
     rintro e w2 ⟨rfl,rfl⟩;go_wp2
     refine Zp (v:=.tuple #[.agg #[.int .i64 0,.slice none 0 0,.slice none 0 0],.int .i64 8]) Y7 rfl ?_
     exact zeG HF.out HB1.out gge
    ·have qa:decide ((256:Int)<nin)=false:=Zj ha
     go_wp2_with fail
     refine HSz1.out.mono ?_
     rintro e w2 ⟨rfl,rfl⟩
     go_wp2_with fail
     refine HCn1.out.mono ?_
     rintro e w2 ⟨rfl,hb2⟩;obtain⟨HSzL2,HSz2⟩:=hd2 (HSzL.out w2 hb2) (HSz.out w2 hb2);rw[<- HNin.out]at HSz2;have HB2:=htr HB1 hb2;obtain⟨HG2,HX2,HI2,HSi2⟩:=hd4 (HG1.out.below hb2) (HX1.out.below hb2) (HI.out.below hb2) (HSi.out.below hb2);clear hb2 x0 x1 xf xlt HSzL HSz HSz1 HCn1 HI HSi HX1 HG1 HB1 g0 g1 g2 gf glt gge;obtain⟨x0,x1,xf,xlt⟩:=HX2.out;obtain⟨g0,g1,g2,gf,glt,gge,_⟩:=HG2.out
     by_cases hb:1024<nun
     ·have qb:decide ((1024:Int)<nun)=true:=Zk hb;have HF:Hid (RR=(zed,8)):=by
       have h:=HRd3.out;rw[Zm (.inr (.inl hb))]at h;exact h.symm
      clear hb HRd3;exact Ev
     ·have qb:decide ((1024:Int)<nun)=false:=Zj hb
      go_wp2_with fail
      refine HSzL2.out.mono ?_
      rintro e w3 ⟨rfl,rfl⟩
      by_cases hc:256<nout
      ·have qc:decide ((256:Int)<nout)=true:=Zk hc;have HF:Hid (RR=(zed,8)):=by
        have h:=HRd3.out;rw[Zm (.inr (.inr hc))]at h;exact h.symm
       clear hc HRd3;exact Ev
      ·have qc:decide ((256:Int)<nout)=false:=Zj hc;have HRd4:=HRd3.out;rw[Zg Ya]at HRd4;obtain⟨HRd5,HUn1⟩:=hd2 HRd4 (show nun<=1024 from Ya);clear HRd3 HRd4
       go_upto_region 9 with fail
       obtain⟨nI,rfl⟩:=Int.eq_ofNat_of_zero_le (show 0<=nin from Ya);have hnI:1<=nI/\nI<=256:=Ya;have HNI:=hid hnI;clear qa qb qc ha hb hc hin
       go_wp2_with fail
       refine HSz2.out.mono ?_
       rintro e w3 ⟨rfl,rfl⟩;have hgs:=HG2.out.lt;have HL3:=hid (LSt.make w2 nI 30);have b3:=blA w2 (.cells #[.int .i64 (nI:Int),.slice none 0 0,.slice none 0 0] 30);have hs3:(w2.alloc (.cells #[.int .i64 (nI:Int),.slice none 0 0,.slice none 0 0] 30)).heap.size=w2.heap.size+1:=Yc;obtain⟨HX3,HB3,HS3⟩:=hd3 (HX2.out.below b3) b3 hs3;clear b3 hs3 HSz2 HSzL2 x0 x1 xf xlt g0 g1 g2 gf glt gge
       go_upto_region 10 with fail
       generalize w2.alloc (.cells #[.int .i64 (nI:Int),.slice none 0 0,.slice none 0 0] 30)=W3 at *;obtain⟨gG,hgG⟩:∃gG,gG=w2.heap.size:=⟨_,rfl⟩
       rw[<- hgG]at HL3 HB3;obtain⟨S0,hS0⟩:∃S0:zdp,S0=⟨0,0,0,0,0,0,0,none,0,0,none,0,0,a1,m.input.length,c1,none,0,0,none,0,0,.nilFunc⟩:=⟨_,rfl⟩
       have hmk:=LwB.make (w1:=w2) HL3.out HB3.out S0 (by rw[hS0];rfl) 73 [] ⟨zf5.nil _ _,.inl rfl⟩;obtain⟨gL,hgL⟩:∃gL,gL=W3.heap.size:=⟨_,rfl⟩
       rw[<- hgL,show S0.cells=#[.int .i64 0,.int .i64 0,.int .i64 0,.int .i64 0,.int .i64 0,.int .i64 0,.int .i64 0,.slice none 0 0,.slice none 0 0,.slice a1 m.input.length c1,.slice none 0 0,.slice none 0 0,.nilFunc] by rw[hS0];rfl]at hmk;have b4:=blA W3 (.cells #[.int .i64 0,.int .i64 0,.int .i64 0,.int .i64 0,.int .i64 0,.int .i64 0,.int .i64 0,.slice none 0 0,.slice none 0 0,.slice a1 m.input.length c1,.slice none 0 0,.slice none 0 0,.nilFunc] 73);obtain⟨HMk,HX4,HGg,HS0⟩:=hd4 hmk (HX3.out.below b4) hgG hS0;obtain⟨x0,x1,xf,xlt⟩:=HX3.out;obtain⟨HGl,HlG⟩:=hd2 hgL (show gL=gG+1 by rw[hgL,HS3.out,hgG]);clear hmk b4 hS0 hgG hgL HX3 HL3 HB3;rw[<- HGg.out]
       go_upto_region 11 with fail
       rw[<- HGl.out];generalize W3.alloc (.cells #[.int .i64 0,.int .i64 0,.int .i64 0,.int .i64 0,.int .i64 0,.int .i64 0,.int .i64 0,.slice none 0 0,.slice none 0 0,.slice a1 m.input.length c1,.slice none 0 0,.slice none 0 0,.nilFunc] 73)=W4 at *;clear x0 x1 xf xlt;have f12:=(zaY.fn HMk.out.box).f12;rw[show S0.fu=.nilFunc by rw[HS0.out]]at f12;have ff:=(zaY.fn HMk.out.box).free;have flt:=(zaY.fn HMk.out.box).lt;have HM1:=hid (HMk.out.fnc (v:=.func (.func 33) #[] #[.pointer (some ⟨gG,0,none⟩)]) rfl)
       go_upto_region 12 with fail
       generalize W4.setCell ⟨gL,12,none⟩ (.func (.func 33) #[] #[.pointer (some ⟨gG,0,none⟩)])=W5 at *;clear f12 ff flt HMk HX4;obtain⟨S1,hS1⟩:∃S1,S1=S0.fnc (.func (.func 33) #[] #[.pointer (some ⟨gG,0,none⟩)]):=⟨_,rfl⟩
       rw[<- hS1]at HM1;have HS1:Hid (S1.nums none 0 0=S1/\S1.fu=zlG gG/\S1.aS=a1/\S1.nS=m.input.length/\S1.aT=none/\S1.nT=0/\S1.cT=0):=by
        rw[hS1,HS0.out];exact⟨rfl,rfl,rfl,rfl,rfl,rfl,rfl⟩
       have hax1:S0.ax=none:=by rw[HS0.out]
       rw[hax1]at HM1;have HM2:Hid (LwB w2 gG gL nI W5 (S1.nums none 0 0).fn [] (.slice none 0 0) [] none (zq 0)):=by
        rw[HS1.out.1];exact HM1.out
       have g0:=HM1.out.un.g0;have glt:=HM1.out.un.lt;clear hS1 hax1 HM1 HS0;go_wp2;clear g0 glt
       go_loopw [65] (fun i wr=>∃(k:Nat) (a:Option Addr) (c:Nat),k<=nI/\i=.int .i64 (k:Int)/\Hid (LwB w2 gG gL nI wr (S1.nums a k c).fn [] (.slice none 0 0) [] a (zq k))/\Hid (zgG gG wr (gL+1) (.slice a k c) (zq k))) (fun i _=>nI-(intOf i).toNat)
       case atStart=>exact⟨0,none,0,Zs _,rfl,HM2.out,zgG.nil _ _ _⟩
       case round=>
        obtain⟨k,a,c,hk,rfl,HLw,HFo⟩:=hrel
        by_cases hlk:k<nI
        ·have hLr:=HLw.out.un;have HCe:Hid (∀X,Stp gG wr X->LSt X gG nI []->X.cell? ⟨gL,10,none⟩=some (.slice a k c)/\(∀i,X.frozen? ⟨gL,i,none⟩=false)/\gL<X.heap.size):=fun X hs hl=>
          ⟨(HLw.out.stp hs hl).box.c 10 Ya,(HLw.out.stp hs hl).box.free,(HLw.out.stp hs hl).box.lt⟩
         obtain⟨V,hV⟩:∃V,V=zbv k:=⟨_,rfl⟩
         have HVar:Hid (∀X,Calls Tryz.prog 34 #[.int .i64 (k:Int)] X (za2 X V)):=fun X=>by rw[hV];exact zjd X k
         have HStep:Hid (zq (k+1)=zq k++[V]):=by rw[hV];simp[Hid,zq,Zab]
         have HLk:Hid ((zq k).length=k):=by simp[Hid,zq]
         have hk1:=HNI.out.2;have HgL:=hid HLw.out.box.lt;clear hV
         go_upto_region 15 with fail
         refine zal 9 Yb Yb Yb Yb Yd (zi1 gG nI wr [] [.val (.pointer (some ⟨gL,0,none⟩)),.val (.pointer (some ⟨gL,0,none⟩)),.val (.pointer (some ⟨gL,0,none⟩)),.val (.pointer (some ⟨gL,10,none⟩)),.val (.slice a k c),.val (.int .i64 (k:Int)),.frm V,.onf V] 8 [(2,1),(3,2),(4,3),(6,5),(7,6)] (.pointer (some ⟨gL,0,none⟩)) (zud w2 gG gL nI k (S1.nums a k c))) (fun g=>zi1.start YS g) ?_ ?_
         ·intro ops;simp only[Zo,Zw,zc1]
          refine⟨?_,?_,?_,?_,?_,?_,?_,?_,?_,trivial⟩
          ·intro d y' X hV hd hW;obtain⟨hp,hJ⟩|⟨hp,hal,hPo⟩:=hV.st
           ·simp only[zaE,Region.binds,ZB,Zn,Zx,Z0,Z6]at hW;have hdeps:∀q∈([(2,1),(3,2),(4,3),(6,5),(7,6)]:List (Nat×Nat)),q.1=0->d q.2=true:=Yc;exact Oa
           ·exact Tv
          ·intro d y' X hV hd hW;obtain⟨hp,hJ⟩|⟨hp,hal,hPo⟩:=hV.st
           ·simp only[zaE,Region.binds,ZB,Zn,Zx,Z0,Z6]at hW;have hdeps:∀q∈([(2,1),(3,2),(4,3),(6,5),(7,6)]:List (Nat×Nat)),q.1=1->d q.2=true:=Yc;exact Oa
           ·rw[hal 1 Yd Yd]at hd;cases hd
          ·intro d y' X hV hd hW;obtain⟨hp,hJ⟩|⟨hp,hal,hPo⟩:=hV.st
           ·simp only[zaE,Region.binds,ZB,Zn,Zx,Z0,Z6]at hW;have h1:d 1=true:=Ye;have hdeps:∀q∈([(2,1),(3,2),(4,3),(6,5),(7,6)]:List (Nat×Nat)),q.1=2->d q.2=true:=by simp[h1]
            exact Oc
           ·rw[hal 2 Yd Yd]at hd;cases hd
          ·intro d y' X hV hd hW;obtain⟨hp,hJ⟩|⟨hp,hal,hPo⟩:=hV.st
           ·simp only[zaE,Region.binds,ZB,Zn,Zx,Z0,Z6]at hW;have h2:d 2=true:=Ye;have hdeps:∀q∈([(2,1),(3,2),(4,3),(6,5),(7,6)]:List (Nat×Nat)),q.1=3->d q.2=true:=by simp[h2]
            exact Od
           ·rw[hal 3 Yd Yd]at hd;cases hd
          ·intro d y' X hV hd hW;obtain⟨hp,hJ⟩|⟨hp,hal,hPo⟩:=hV.st
           ·obtain⟨f10,ff,flt⟩:=HCe.out X hJ.st hJ.same;simp only[zaE,Region.binds,ZB,Zn,Zx,Z0,Z6]at hW;have h3:d 3=true:=Ye;have hdeps:∀q∈([(2,1),(3,2),(4,3),(6,5),(7,6)]:List (Nat×Nat)),q.1=4->d q.2=true:=by simp[h3]
            exact Oe
           ·rw[hal 4 Yd Yd]at hd;cases hd
          ·intro d y' X hV hd hW;obtain⟨hp,hJ⟩|⟨hp,hal,hPo⟩:=hV.st
           ·simp only[zaE,Region.binds,ZB,Zn,Zx,Z0,Z6]at hW;have hdeps:∀q∈([(2,1),(3,2),(4,3),(6,5),(7,6)]:List (Nat×Nat)),q.1=5->d q.2=true:=Yc;exact Oa
           ·rw[hal 5 Yd Yd]at hd;cases hd
          ·intro d y' X hV hd hW;obtain⟨hp,hJ⟩|⟨hp,hal,hPo⟩:=hV.st
           ·simp only[zaE,Region.binds,ZB,Zn,Zx,Z0,Z6]at hW;have h5:d 5=true:=Ye;have hdeps:∀q∈([(2,1),(3,2),(4,3),(6,5),(7,6)]:List (Nat×Nat)),q.1=6->d q.2=true:=by simp[h5]
            have J5:=hJ.all 5 h5;simp only[GU,Zf,Zc]at J5;simp[ze,Act.put];generalize hg5:y' 5=y5;rw[hg5]at J5;clear hg5;obtain rfl:=J5;obtain⟨HJ,HV,HP,HD⟩:=hd4 hJ hV hp hdeps;clear hdeps hJ hV hp hd hW h5;have HCt:=hid (HVar.out X)
            go_wp2_with fail
            refine HCt.out.mono ?_
            rintro e w1 ⟨v1,rfl,kv,kb⟩;obtain⟨KV,KB⟩:=hd2 kv kb;clear kv kb HCt;go_wp2
            first|exact⟨_,rfl,HV.out.on HD.out HP.out (HJ.out.step Yd KB.out KV.out)⟩|exact HV.out.on HD.out HP.out (HJ.out.step Yd KB.out KV.out)
           ·rw[hal 6 Yd Yd]at hd;cases hd
          ·intro d y' X hV hd hW;obtain⟨hp,hJ⟩|⟨hp,hal,hPo⟩:=hV.st
           ·simp only[zaE,Region.binds,ZB,Zn,Zx,Z0,Z6]at hW;have h6:d 6=true:=Ye;have hdeps:∀q∈([(2,1),(3,2),(4,3),(6,5),(7,6)]:List (Nat×Nat)),q.1=7->d q.2=true:=by simp[h6]
            have J6:=hJ.all 6 h6;simp only[GU,Zf,Zc]at J6;simp[ze,Act.put];generalize hg6:y' 6=y6;rw[hg6]at J6;clear hg6;have K6:=hid J6;clear J6;obtain⟨HJ,HV,HP,HD⟩:=hd4 hJ hV hp hdeps;clear hdeps hJ hV hp hd hW h6;obtain⟨xa,xn,xc,xb,xan,xnn,xcn,xad,xnd,xcd,rfl⟩:=K6.out.spell;obtain⟨HRow,HBa⟩:=hd2 (zfp.form K6.out.fp 53) ((Ze X.heap.size X).alloc (Za _) (.cells #[.slice xa xn xc,.bool xb,.slice xan xnn xcn,.slice xad xnd xcd] 53));have HFr:=hid (HJ.out.un.fresh HBa.out (Za _) Yc);clear K6;go_wp2
            first|exact⟨_,rfl,HV.out.on HD.out HP.out (HJ.out.step Yd HBa.out ⟨HRow.out,fun b e=>XA⟩)⟩|exact HV.out.on HD.out HP.out (HJ.out.step Yd HBa.out ⟨HRow.out,fun b e=>XA⟩)
           ·rw[hal 7 Yd Yd]at hd;cases hd
          ·intro d y' X hV hd hW;obtain⟨hp,hJ⟩|⟨hp,hal,hPo⟩:=hV.st
           ·simp only[zaE,Region.binds,ZB,Zn,Zx,Z0,Z6]at hW;have h4:d 4=true:=Ye;have h7:d 7=true:=Ye;have h6:d 6=true:=Ye;have J4:=hJ.all 4 h4;have J7:=hJ.all 7 h7;have J6:=hJ.all 6 h6;simp only[GU,Zf,Zc]at J4 J7 J6;simp[ze,Act.put];generalize hg4:y' 4=y4;rw[hg4]at J4;generalize hg7:y' 7=y7;rw[hg7]at J7;generalize hg6:y' 6=y6;rw[hg6]at J6;clear hg4;obtain rfl:=J4;clear hg7;have K7:=hid J7;clear J7;clear hg6;have K6:=hid J6;clear J6;obtain⟨HJ,HV,HP⟩:=hd3 hJ hV hp;have h5:=hV.cl (6,5) Yc h6;have h3:=hV.cl (4,3) Yc h4;have h2:=hV.cl (3,2) Yc h3;have h1:=hV.cl (2,1) Yc h2;have hall:∀i,0<i->i<8->d i=true:=by
             intro i i1 i2;have hi:i=1∨i=2∨i=3∨i=4∨i=5∨i=6∨i=7:=Ya
             rcases hi with rfl|rfl|rfl|rfl|rfl|rfl|rfl<;>assumption
            have HAl:=hid hall;clear hall hJ hV hp hd hW h4 h7 h6 h5 h3 h2 h1;obtain⟨HFX,HLX,HGe,HRow⟩:=hd4 (HFo.out.stp HLw.out.un HJ.out.st) (HLw.out.stp HJ.out.st HJ.out.same) (show gL+1<=X.heap.size from Zi HgL.out HJ.out.st.size) K7.out.1;clear K7
            go_wp2_with (at_builtin;refine apF rfl (.tmp 72) (.tmp 75) rfl (gL+1) (.slice a k c) k (zq k) HLk.out rfl HFX.out.own _ V HRow.out rfl Ya HGe.out ?_;intro b3 k3 w3 hown hk3 hg hbe hnx;have HF3:=hid (HFX.out.app HLX.out.un hown hg hnx);rw[<- HStep.out]at HF3;have HPost:Hid (zud w2 gG gL nI k (S1.nums a k c) (.slice b3 (k+1) k3) w3):=⟨b3,k3,rfl,HF3.out,HLX.out.appX HFX.out hg (HF3.out.read (by simp[zq];omega))⟩;clear hown hg hbe hnx)
            exact Ir
           ·rw[hp]at hd;cases hd
         ·intro ops d y' X hA hV;have hz0:=hV.z0 (hA 0 Yd);obtain⟨hp,_⟩|⟨_,_,hPo⟩:=hV.st
          ·rw[hA 8 Yd]at hp;cases hp
          have HPo:=hid hPo;clear hV hA hPo;simp only[Zo,Zw,ZG,ZO];simp[ze,Act.put];generalize y' 0=y0 at hz0⊢;subst hz0;generalize y' 8=yp at HPo⊢;obtain⟨b3,k3,rfl,hF3,hL3⟩:=HPo.out;obtain⟨HL4,HF4⟩:=hd2 (hL3.nums b3 (k+1) k3) (hF3.setZ (o:=10) (u:=.slice b3 (k+1) k3) hL3.ai hL3.fre.ne (Zaa _));have y10:X.cell? ⟨gL,10,none⟩=some (.slice a k c):=hL3.box.c 10 Ya;have yff:=hL3.box.free;have ylt:=hL3.box.lt;clear hF3 hL3 HPo;go_wp2;go_roundw
          case rel=>exact⟨k+1,b3,k3,hlk,Yg,HL4.out,HF4.out⟩
          case measure=>simp[intOf];omega
        ·have hkn:nI=k:=Ya;subst hkn;have hnc:nI<=c:=by
          obtain⟨a',c',e,hc⟩:=HFo.out.own.form;simp only[Value.slice.injEq]at e;obtain⟨_,e2,e3⟩:=e;omega
         have b6:=blA wr (.cells #[.slice a nI c] 28);have hOne:=zcG.one (m:=nI) (c:=c) HLw.out.un HLw.out.cur (by simp[zq]) hnc (show gL+1<=wr.heap.size from HLw.out.box.lt);have HL6:=hid ((HLw.out.below b6).own' hOne);have HL7:=hid (HL6.out.trc (some ⟨wr.heap.size,0,none⟩) 1 1);have x10:wr.cell? ⟨gL,10,none⟩=some (.slice a nI c):=HLw.out.box.c 10 Ya;have y11:(wr.alloc (.cells #[.slice a nI c] 28)).cell? ⟨gL,11,none⟩=some (.slice none 0 0):=by
          have h:=HL6.out.box.c 11 Ya;rw[h];show some (Value.slice S1.aT S1.nT S1.cT)=_
          rw[HS1.out.2.2.2.2.1,HS1.out.2.2.2.2.2.1,HS1.out.2.2.2.2.2.2]
         have yff:=HL6.out.box.free;have xlt:=HLw.out.box.lt;have ylt:=HL6.out.box.lt;have HBl:Hid (Below w2.heap.size w2 wr):=Jr;have HgL:=hid HLw.out.box.lt;clear HLw HFo hOne b6
         go_upto_region 18 with fail
         obtain⟨aT0,haT0⟩:∃aT0:Option Addr,aT0=some ⟨wr.heap.size,0,none⟩:=⟨_,rfl⟩
         rw[World.setCell_alloc_past _ _ _ _ xlt]at HL7;rw[<- haT0]at HL7⊢;clear haT0 HL6 x10 y11 yff xlt ylt;generalize(wr.setCell ⟨gL,11,none⟩ (.slice aT0 1 1)).alloc (.cells #[.slice a nI c] 28)=W6 at *;have hbl6:Below w2.heap.size w2 W6:=by have h:=HL7.out.bl;rw[HGg.out]at h;exact h
         obtain⟨x0,x1,xf,xlt⟩:=HX2.out.below hbl6;obtain⟨S2,hS2⟩:∃S2,S2=(S1.nums a nI c).trc aT0 1 1:=⟨_,rfl⟩
         rw[<- hS2]at HL7;have HK2:Hid (LwK w2 S2 m.input (zq nI).length 0 gG):=by
          unfold Hid;rw[hS2];obtain⟨_,r2,r3,r4,_⟩:=HS1.out;exact⟨r4.symm,by show zah w2 Any S1.aS m.input;rw[r3];exact HSi2.out,by simp[zq];rfl,hnc,rfl,r2⟩
         have HT2:Hid (S2.aT=aT0/\S2.nT=1/\S2.cT=1/\S2.ax=a):=by rw[hS2];exact⟨rfl,rfl,rfl,rfl⟩
         have HLst:Hid (LwB w2 gG gL nI W6 S2.fn [] (.slice S2.aT S2.nT S2.cT) (zq nI::[]) S2.ax (zat (zq nI) [])):=by
          obtain⟨r1,r2,r3,r4⟩:=HT2.out;unfold Hid;rw[r1,r2,r3,r4];exact HL7.out
         have HQ0:Hid (LwQ nI m.input [] [] [] 1 1 1280):=LwQ.start HNin.out (by have:=HNI.out;omega);have HTot:Hid (((z6 nI m.input (zq nI) [] [] [] m.layers).1.length:Int)<=1024):=by
          unfold Hid;rw[zmO HNin.out HCh.out,<- HNun.out];exact HUn1.out
         clear hS2 HL7 hbl6 HT2 hnc;go_wp2;clear x0 x1 xf xlt
         go_loopw [91] (fun i wr=>∃(j:Nat) (U:List zl) (Y:List (List zl)) (D' B':Nat) (S:zdp),j<=m.layers.length/\i=.int .i64 (j:Int)/\Hid (LwB w2 gG gL nI wr S.fn U (.slice S.aT S.nT S.cT) (zq nI::Y) S.ax (zat (zq nI) Y))/\
          Hid (LwK w2 S (zh m.input (T.take j)) (zat (zq nI) Y).length j gG)/\Hid (Y.length=j)/\Hid (LwQ nI m.input (T.take j) U Y D' B' 1280)/\Hid (zdz (12-j) D' B')/\
          Hid (z6 nI m.input (zq nI) (T.take j) Y U (m.layers.drop j)=z6 nI m.input (zq nI) [] [] [] m.layers)) (fun i _=>m.layers.length-(intOf i).toNat)
         case atStart=>exact⟨0,[],[],1,1,S2,Zs _,rfl,HLst.out,HK2.out,rfl,HQ0.out,zpK,rfl⟩
         case round=>
          obtain⟨j,U,Y,D',B',S,hj,rfl,HLw,HStp,HYl,HQ,HRm,HTq⟩:=hrel;clear HLst HK2 HQ0;have HB:Hid (Below w2.heap.size w2 wr):=Jr
          by_cases hlt:j<m.layers.length
          ·have hbw:=HB2.out.trans (HB.out.mono HB2.out.size);obtain⟨bl,ol,l,ha2,hbl,hl,b1,b2,d1,d2,⟨l0,l1,l2,l3,l4,l5,l6,l7,l8⟩,r1,r2⟩:=H2.out.pick hlt;have hmem:=Zq hl;have hTj:T[j]? =some (T[j]' Xl):=Zh _;have hout:=HCh.out.2 j _ l hTj hl;rw[ZaV]at hout;have hdrop:m.layers.drop j=l::m.layers.drop (j+1):=UV;have hq:=HTq.out;rw[hdrop]at hq;have hf0:(zL m.input (T.take j) l).2=0:=by rw[hout]
           obtain⟨hfit,hnum,h7⟩:=zev hf0;obtain⟨hcx,hcB⟩:=HQ.out.curr;have hvc:zk (zh m.input (T.take j))=true:=UH;obtain⟨LY,hLY⟩:∃LY,LY=z8 nI U l (zh m.input (T.take j)) (zat (zq nI) Y) (zaS (zq nI) Y l.frm):=⟨_,rfl⟩
           have hq2:z6 nI m.input (zq nI) (T.take (j+1)) (Y++[LY.2]) LY.1 (m.layers.drop (j+1))=z6 nI m.input (zq nI) [] [] [] m.layers:=by
            rw[<- hq,hLY];show _=z6 nI m.input (zq nI) (T.take j++[(zL m.input (T.take j) l).1]) _ _ _
            rw[hout,Zap,hTj];rfl
           have hNb:nI+LY.1.length<=1280:=by
            obtain⟨V,hV⟩:=zdx (nI:=nI) (input:=m.input) (x:=zq nI) (L:=m.layers.drop (j+1)) (S:=T.take (j+1)) (Y:=Y++[LY.2]) (U:=LY.1);rw[hq2]at hV;have h1:=HTot.out;rw[hV,ZE]at h1;have h2:=HNI.out;omega
           obtain⟨kk,k1,k2,k3⟩:=HQ.out.step hf0 (HSm.out l hmem) hvc (by rw[<- hLY];exact hNb);rw[hout,<- hLY,show T.take j++[T[j]' Xl]=T.take (j+1) by rw[Zap,hTj];rfl]at k3;have hsz2:=zae hvc;have hc9:=fun o=>hbw.cell (p:=⟨bl,o,none⟩) hbl
           have l0:=(hc9 _).trans l0;have l1:=(hc9 _).trans l1;have l2:=(hc9 _).trans l2;have l3:=(hc9 _).trans l3;have l4:=(hc9 _).trans l4;have l5:=(hc9 _).trans l5;have l6:=(hc9 _).trans l6;have l7:=(hc9 _).trans l7;have l8:=(hc9 _).trans l8;have hbl2:=Zb hbl hbw.size;obtain⟨bT,oT,t,aT,ct,haT,tc0,hTi,htc,hIt,hbT,_⟩:=HI2.out.pickc (k:=j) Xl;have E3:Hid (zh m.input (T.take (j+1))=t):=by
            unfold Hid zh;rw[List.getLast?_take,Zg Ya,show j+1-1=j from Ya,hTi];rfl
           have hf7:l.kind=7->(zaS (zq nI) Y l.frm).length=(zat (zq nI) Y).length/\∃fr1:Nat,l.frm+1=(fr1:Int)/\fr1<Y.length+1/\(zq nI::Y)[fr1]? =some (zaS (zq nI) Y l.frm):=fun hk7=>by
            obtain⟨g1,g2,g3⟩:=h7 hk7;exact HQ.out.flen g1 g2 g3
           have HOutp:Hid (∀W',LwB w2 gG gL nI W' (S.lay l b1 d1 b2 d2).fn U (.slice S.aT S.nT S.cT) (zq nI::Y) S.ax (zat (zq nI) Y)->Calls Tryz.prog 35 #[.pointer (some ⟨gL,0,none⟩)] W' (zr6 gG nI W' LY.1 LY.2)):=fun W' hts=>by
            have hb0:Below w2.heap.size w2 W':=by have h:=hts.bl;rw[HGg.out]at h;exact h
            have hb1:=HB2.out.trans (hb0.mono HB2.out.size);rw[hLY]at hNb⊢
            refine zrN (S:=S.lay l b1 d1 b2 d2) (zaY.fn hts.box) HStp.out.fu hts.un hfit hnum hcx Ya Ya rfl rfl rfl rfl rfl rfl rfl rfl HStp.out.nS HStp.out.nx HStp.out.cx (r1.below hb1) (r2.below hb1) (HStp.out.sh.below hb0) hts.cur (fun hk7=>?_) (HSm.out l hmem) hcB (HQ.out.frm l.frm) HQ.out.hD HQ.out.hB HRm.out.now Ya hNb
            obtain⟨e1,fr1,e2,e3,e4⟩:=hf7 hk7;obtain⟨bt,af,cf,k1,k2,k3,k4⟩:=hts.own.at' e4;have hnx:=HStp.out.nx;have hnT:=HStp.out.nT;rw[e1,hnx]at k3
            refine⟨bt,0,af,cf,fr1,e2,k1,?_,k2,k3,k4,e1.trans hnx,?_⟩
            ·show fr1<S.nT
             rw[hnT,<- HYl.out];exact e3
            ·show S.nT<=1000000
             rw[hnT];omega
           obtain⟨HQ2,K1,K2,K3,HIt⟩:=hd5 hq2 k1 k2 k3 hIt;have hal:=blA wr (zbG l b1 d1 b2 d2 44);obtain⟨HTj,HBx9⟩:=hd2 (HLw.out.below hal) (b9l wr l b1 d1 b2 d2 44);subst ha2 haT;clear hq2 k1 k2 k3 hf7 h7 hfit hnum hcx hcB hvc hsz2 hf0 hdrop hq hTj hmem hout hIt hal hc9 hLY hNb r1 r2 HLw
           go_upto_region 21 with fail
           generalize wr.alloc (zbG l b1 d1 b2 d2 44)=wj at *;clear l0 l1 l2 l3 l4 l5 l6 l7 l8;obtain⟨l0,l1,l2,l3,l4,l5,l6,l7,l8,l9⟩:=HBx9.out;have HLy:=hid (HTj.out.lay l b1 d1 b2 d2);obtain⟨f0,f1,f2,f3,f4,f5,f6,f7,f8,f9,f10,f11,f12,ff,flt⟩:=zaY.fn HTj.out.box
           go_upto_region 22 with fail
           generalize((((((((wj.setCell ⟨gL,0,none⟩ (.int .i64 l.kind)).setCell ⟨gL,1,none⟩ (.int .i64 l.frm)).setCell ⟨gL,2,none⟩ (.int .i64 l.out)).setCell ⟨gL,3,none⟩ (.int .i64 l.kh)).setCell ⟨gL,4,none⟩ (.int .i64 l.kw)).setCell ⟨gL,5,none⟩ (.int .i64 l.stride)).setCell ⟨gL,6,none⟩ (.int .i64 l.pad)).setCell ⟨gL,7,none⟩ (.slice b1 l.weights.length d1)).setCell ⟨gL,8,none⟩ (.slice b2 l.bias.length d2)=wk at *;have HKS:Hid (S.lay l b1 d1 b2 d2=S.lay l b1 d1 b2 d2):=rfl;obtain⟨S3,hS3⟩:∃S3,S3=S.lay l b1 d1 b2 d2:=⟨_,rfl⟩
           have HS3:Hid (S3.aT=S.aT/\S3.nT=S.nT/\S3.cT=S.cT/\S3.fu=S.fu):=by rw[hS3];exact⟨rfl,rfl,rfl,rfl⟩
           have HC:=hid (HOutp.out wk HLy.out);rw[<- hS3]at HLy;clear HOutp HTj hS3 f0 f1 f2 f3 f4 f5 f6 f7 f8 f9 f10 f11 f12 ff flt l0 l1 l2 l3 l4 l5 l6 l7 l8 l9 HKS
           go_wp2_with fail
           refine HC.out.mono ?_
           rintro e w3 ⟨aR,cR,rfl,hcR,hR,hlR,hsR⟩;obtain⟨LU,LX⟩:=LY;simp only at hcR hR hlR K3 HQ2⊢;obtain⟨nR,hnR⟩:∃nR,nR=LX.length:=⟨_,rfl⟩
           rw[<- hnR]at hcR⊢;obtain⟨HNR,HT3⟩:=hd2 hnR.symm ((HLy.out.stp hsR hlR).cur' hR);have HT4:=hid ((HT3.out.nums aR nR cR).shap aT t.length ct);have y9:=(zaY.fn HT3.out.box).f9;have y10:=(zaY.fn HT3.out.box).f10;have yff:=HT3.out.box.free;have ylt:=HT3.out.box.lt;have HB3:Hid (Below w2.heap.size w2 w3):=by have h:=HT3.out.bl;rw[HGg.out]at h;exact h
           have tc0:=(HB3.out.cell (p:=⟨bT,oT+j,none⟩) hbT).trans tc0;have hbT2:=Zb hbT HB3.out.size;have HcR:=hid hcR;have hne1:bT≠gL:=by have h1:=HGg.out;have h2:=HlG.out;omega
           have hne2:gL≠bT:=fun e=>hne1 e.symm
           have hjT:j<T.length:=Xl;clear hR hlR hsR hnR HC HLy hcR
           go_upto_region 24 with fail
           generalize(w3.setCell ⟨gL,10,none⟩ (.slice aR nR cR)).setCell ⟨gL,9,none⟩ (.slice aT t.length ct)=w4 at *;clear y9 y10 yff ylt tc0 HT3 hne1 hne2 hjT;obtain⟨S4,hS4⟩:∃S4,S4=(S3.nums aR nR cR).shap aT t.length ct:=⟨_,rfl⟩
           have HS4:Hid (S4.aT=S.aT/\S4.nT=j+1/\S4.cT=S.cT/\S4.ax=aR/\S4.nx=nR/\S4.cx=cR/\S4.aS=aT/\S4.nS=t.length/\S4.fu=zlG gG):=by
            obtain⟨e1,e2,e3,e4⟩:=HS3.out;rw[hS4];exact⟨e1,e2.trans HStp.out.nT,e3,rfl,rfl,rfl,rfl,rfl,e4.trans HStp.out.fu⟩
           rw[<- hS4]at HT4;have HT5:Hid (LwB w2 gG gL nI w4 S4.fn LU (.slice S.aT (j+1) S.cT) (zq nI::Y) aR LX):=by
            have h:=HT4.out;rw[HStp.out.nT]at h;exact h
           have hLr:=HT5.out.un;obtain⟨aTr,haTr⟩:∃aTr,aTr=S.aT:=⟨_,rfl⟩
           obtain⟨cTr,hcTr⟩:∃cTr,cTr=S.cT:=⟨_,rfl⟩
           rw[<- haTr,<- hcTr]at HT5 HS4;have HCe:Hid (∀X,Stp gG w4 X->LSt X gG nI LU->X.cell? ⟨gL,10,none⟩=some (.slice aR nR cR)/\X.cell? ⟨gL,11,none⟩=some (.slice aTr (j+1) cTr)/\(∀i,X.frozen? ⟨gL,i,none⟩=false)/\gL<X.heap.size):=fun X hs hl=>by
            have h:=zaY.fn (HT5.out.stp hs hl).box;obtain⟨e1,e2,e3,e4,e5,e6,_⟩:=HS4.out;have h10:=h.f10;have h11:=h.f11;rw[e4,e5,e6]at h10;rw[e1,e2,e3]at h11;exact⟨h10,h11,h.free,h.lt⟩
           have HgL2:=hid HT5.out.box.lt;have HYm:Hid ((zq nI::Y).length=j+1):=by unfold Hid;rw[ZH,HYl.out]
           have HSI:Hid (∀b c,LwK w2 (S4.trc b (j+2) c) (zh m.input (T.take (j+1))) (zat (zq nI) (Y++[LX])).length (j+1) gG):=fun b c=>by
            obtain⟨_,_,_,_,e5,e6,e7,e8,e9⟩:=HS4.out;rw[E3.out]
            refine⟨e8.symm,?_,?_,?_,rfl,e9⟩
            ·show zah w2 Any S4.aS t
             rw[e7];exact HIt.out.mono (fun _ _ _=>trivial)
            ·show(zat (zq nI) (Y++[LX])).length=S4.nx
             rw[e5,<- HNR.out];simp[zat]
            ·show S4.nx<=S4.cx
             rw[e5,e6];exact HcR.out
           have HCu:Hid (zat (zq nI) (Y++[LX])=LX):=by unfold Hid;simp[zat]
           clear hS4 HT4 haTr hcTr HStp HS3 HIt
           refine zal 11 Yb Yb Yb Yb Yd (zi1 gG nI w4 LU [.val (.pointer (some ⟨gL,0,none⟩)),.val (.pointer (some ⟨gL,0,none⟩)),.val (.pointer (some ⟨gL,0,none⟩)),.val (.pointer (some ⟨gL,11,none⟩)),.val (.slice aTr (j+1) cTr),.val (.pointer (some ⟨gL,0,none⟩)),.val (.pointer (some ⟨gL,0,none⟩)),.val (.pointer (some ⟨gL,10,none⟩)),.val (.slice aR nR cR),.sl1 (.slice aR nR cR)] 10 [(2,1),(3,2),(4,3),(6,5),(7,6),(8,7),(9,8)] (.pointer (some ⟨gL,0,none⟩)) (zt6 w2 gG gL nI j S4 LU (zq nI::Y) aR LX)) (fun g=>zi1.start YS g) ?_ ?_
           ·intro ops;simp only[Zo,Zw,zc1]
            refine⟨?_,?_,?_,?_,?_,?_,?_,?_,?_,?_,?_,trivial⟩
            ·intro d y' X hV hd hW;obtain⟨hp,hJ⟩|⟨hp,hal,hPo⟩:=hV.st
             ·simp only[zaE,Region.binds,ZB,Zn,Zx,Z0,Z6]at hW;have hdeps:∀q∈([(2,1),(3,2),(4,3),(6,5),(7,6),(8,7),(9,8)]:List (Nat×Nat)),q.1=0->d q.2=true:=Yc;exact Oa
             ·exact Tv
            ·intro d y' X hV hd hW;obtain⟨hp,hJ⟩|⟨hp,hal,hPo⟩:=hV.st
             ·simp only[zaE,Region.binds,ZB,Zn,Zx,Z0,Z6]at hW;have hdeps:∀q∈([(2,1),(3,2),(4,3),(6,5),(7,6),(8,7),(9,8)]:List (Nat×Nat)),q.1=1->d q.2=true:=Yc;exact Oa
             ·rw[hal 1 Yd Yd]at hd;cases hd
            ·intro d y' X hV hd hW;obtain⟨hp,hJ⟩|⟨hp,hal,hPo⟩:=hV.st
             ·simp only[zaE,Region.binds,ZB,Zn,Zx,Z0,Z6]at hW;have h1:d 1=true:=Ye;have hdeps:∀q∈([(2,1),(3,2),(4,3),(6,5),(7,6),(8,7),(9,8)]:List (Nat×Nat)),q.1=2->d q.2=true:=by simp[h1]
              exact Oc
             ·rw[hal 2 Yd Yd]at hd;cases hd
            ·intro d y' X hV hd hW;obtain⟨hp,hJ⟩|⟨hp,hal,hPo⟩:=hV.st
             ·simp only[zaE,Region.binds,ZB,Zn,Zx,Z0,Z6]at hW;have h2:d 2=true:=Ye;have hdeps:∀q∈([(2,1),(3,2),(4,3),(6,5),(7,6),(8,7),(9,8)]:List (Nat×Nat)),q.1=3->d q.2=true:=by simp[h2]
              exact Od
             ·rw[hal 3 Yd Yd]at hd;cases hd
            ·intro d y' X hV hd hW;obtain⟨hp,hJ⟩|⟨hp,hal,hPo⟩:=hV.st
             ·obtain⟨f10,f11,ff,flt⟩:=HCe.out X hJ.st hJ.same;simp only[zaE,Region.binds,ZB,Zn,Zx,Z0,Z6]at hW;have h3:d 3=true:=Ye;have hdeps:∀q∈([(2,1),(3,2),(4,3),(6,5),(7,6),(8,7),(9,8)]:List (Nat×Nat)),q.1=4->d q.2=true:=by simp[h3]
              exact Oe
             ·rw[hal 4 Yd Yd]at hd;cases hd
            ·intro d y' X hV hd hW;obtain⟨hp,hJ⟩|⟨hp,hal,hPo⟩:=hV.st
             ·simp only[zaE,Region.binds,ZB,Zn,Zx,Z0,Z6]at hW;have hdeps:∀q∈([(2,1),(3,2),(4,3),(6,5),(7,6),(8,7),(9,8)]:List (Nat×Nat)),q.1=5->d q.2=true:=Yc;exact Oa
             ·rw[hal 5 Yd Yd]at hd;cases hd
            ·intro d y' X hV hd hW;obtain⟨hp,hJ⟩|⟨hp,hal,hPo⟩:=hV.st
             ·simp only[zaE,Region.binds,ZB,Zn,Zx,Z0,Z6]at hW;have h5:d 5=true:=Ye;have hdeps:∀q∈([(2,1),(3,2),(4,3),(6,5),(7,6),(8,7),(9,8)]:List (Nat×Nat)),q.1=6->d q.2=true:=by simp[h5]
              have J5:=hJ.all 5 h5;simp only[GU,Zf,Zc]at J5;simp[ze,Act.put];generalize hg5:y' 5=y5;rw[hg5]at J5;clear hg5;obtain rfl:=J5;obtain⟨HJ,HV,HP,HD⟩:=hd4 hJ hV hp hdeps;clear hdeps hJ hV hp hd hW h5;exact Uy
             ·rw[hal 6 Yd Yd]at hd;cases hd
            ·intro d y' X hV hd hW;obtain⟨hp,hJ⟩|⟨hp,hal,hPo⟩:=hV.st
             ·simp only[zaE,Region.binds,ZB,Zn,Zx,Z0,Z6]at hW;have h6:d 6=true:=Ye;have hdeps:∀q∈([(2,1),(3,2),(4,3),(6,5),(7,6),(8,7),(9,8)]:List (Nat×Nat)),q.1=7->d q.2=true:=by simp[h6]
              have J6:=hJ.all 6 h6;simp only[GU,Zf,Zc]at J6;simp[ze,Act.put];generalize hg6:y' 6=y6;rw[hg6]at J6;clear hg6;obtain rfl:=J6;obtain⟨HJ,HV,HP,HD⟩:=hd4 hJ hV hp hdeps;clear hdeps hJ hV hp hd hW h6;exact Uy
             ·rw[hal 7 Yd Yd]at hd;cases hd
            ·intro d y' X hV hd hW;obtain⟨hp,hJ⟩|⟨hp,hal,hPo⟩:=hV.st
             ·obtain⟨f10,f11,ff,flt⟩:=HCe.out X hJ.st hJ.same;simp only[zaE,Region.binds,ZB,Zn,Zx,Z0,Z6]at hW;have h7:d 7=true:=Ye;have hdeps:∀q∈([(2,1),(3,2),(4,3),(6,5),(7,6),(8,7),(9,8)]:List (Nat×Nat)),q.1=8->d q.2=true:=by simp[h7]
              have J7:=hJ.all 7 h7;simp only[GU,Zf,Zc]at J7;simp[ze,Act.put];generalize hg7:y' 7=y7;rw[hg7]at J7;clear hg7;obtain rfl:=J7;obtain⟨HJ,HV,HP,HD⟩:=hd4 hJ hV hp hdeps;clear hdeps hJ hV hp hd hW h7;exact Uy
             ·rw[hal 8 Yd Yd]at hd;cases hd
            ·intro d y' X hV hd hW;obtain⟨hp,hJ⟩|⟨hp,hal,hPo⟩:=hV.st
             ·simp only[zaE,Region.binds,ZB,Zn,Zx,Z0,Z6]at hW;have h8:d 8=true:=Ye;have hdeps:∀q∈([(2,1),(3,2),(4,3),(6,5),(7,6),(8,7),(9,8)]:List (Nat×Nat)),q.1=9->d q.2=true:=by simp[h8]
              have J8:=hJ.all 8 h8;simp only[GU,Zf,Zc]at J8;simp[ze,Act.put];generalize hg8:y' 8=y8;rw[hg8]at J8;clear hg8;obtain rfl:=J8;obtain⟨HJ,HV,HP,HD⟩:=hd4 hJ hV hp hdeps;clear hdeps hJ hV hp hd hW h8;have HBa:=hid ((Ze X.heap.size X).alloc (Za _) (.cells #[.slice aR nR cR] 28));have HFr:=hid (HJ.out.un.fresh HBa.out (Za _) Yc);have HCl:Hid ((X.alloc (.cells #[.slice aR nR cR] 28)).cell? ⟨X.heap.size,0,none⟩=some (.slice aR nR cR)):=by unfold Hid;rw[World.cell?_alloc_at _ _ _ _ rfl];rfl
              go_wp2
              first|exact⟨_,rfl,HV.out.on HD.out HP.out (HJ.out.step Yd HBa.out ⟨_,rfl,HFr.out,HCl.out⟩)⟩|exact HV.out.on HD.out HP.out (HJ.out.step Yd HBa.out ⟨_,rfl,HFr.out,HCl.out⟩)
             ·rw[hal 9 Yd Yd]at hd;cases hd
            ·intro d y' X hV hd hW;obtain⟨hp,hJ⟩|⟨hp,hal,hPo⟩:=hV.st
             ·simp only[zaE,Region.binds,ZB,Zn,Zx,Z0,Z6]at hW;have h4:d 4=true:=Ye;have h9:d 9=true:=Ye;have J4:=hJ.all 4 h4;have J9:=hJ.all 9 h9;simp only[GU,Zf,Zc]at J4 J9;simp[ze,Act.put];generalize hg4:y' 4=y4;rw[hg4]at J4;generalize hg9:y' 9=y9;rw[hg9]at J9;clear hg4;obtain rfl:=J4;clear hg9;have K9:=hid J9;clear J9;obtain⟨HJ,HV,HP⟩:=hd3 hJ hV hp;have h8:=hV.cl (9,8) Yc h9;have h7:=hV.cl (8,7) Yc h8;have h6:=hV.cl (7,6) Yc h7;have h5:=hV.cl (6,5) Yc h6;have h3:=hV.cl (4,3) Yc h4;have h2:=hV.cl (3,2) Yc h3;have h1:=hV.cl (2,1) Yc h2;have hall:∀i,0<i->i<10->d i=true:=by
               intro i i1 i2;have hi:i=1∨i=2∨i=3∨i=4∨i=5∨i=6∨i=7∨i=8∨i=9:=Ya
               rcases hi with rfl|rfl|rfl|rfl|rfl|rfl|rfl|rfl|rfl<;>assumption
              have HAl:=hid hall;clear hall hJ hV hp hd hW h4 h9 h8 h7 h6 h5 h3 h2 h1;obtain⟨HLX,HGe⟩:=hd2 (HT5.out.stp HJ.out.st HJ.out.same) (show gL+1<=X.heap.size from Zi HgL2.out HJ.out.st.size);obtain⟨gs,rfl,hgf,hgc⟩:=K9.out;have HGc:=hid hgc;clear K9 hgf hgc
              go_wp2_with (at_builtin;refine zjL rfl (.tmp 116) (.tmp 121) 70 rfl gG nI (gL+1) Tryz.underlying70 Yb (.slice aTr (j+1) cTr) (j+1) (zq nI::Y) LU HYm.out rfl HLX.out.own HLX.out.un LX nR HNR.out aR cR HcR.out HLX.out.cur gs HGc.out rfl Ya HGe.out ?_;intro b3 k3 w5 hown hk3 hg;have HPost:Hid (zt6 w2 gG gL nI j S4 LU (zq nI::Y) aR LX (.slice b3 (j+2) k3) w5):=⟨b3,k3,rfl,HLX.out.app hown hg⟩;clear hown hg)
              exact Ir
             ·rw[hp]at hd;cases hd
           ·intro ops d y' X hA hV;have hz0:=hV.z0 (hA 0 Yd);obtain⟨hp,_⟩|⟨_,_,hPo⟩:=hV.st
            ·rw[hA 10 Yd]at hp;cases hp
            have HPo:=hid hPo;clear hV hA hPo;simp only[Zo,Zw,ZG,ZO];simp[ze,Act.put];generalize y' 0=y0 at hz0⊢;subst hz0;generalize y' 10=yp at HPo⊢;obtain⟨b3,k3,rfl,hL3⟩:=HPo.out;have HL4:=hid (hL3.trc b3 (j+2) k3);have y11:=(zaY.fn hL3.box).f11;have yff:=hL3.box.free;have ylt:=hL3.box.lt;clear hL3 HPo;go_wp2;go_roundw
            case rel=>
             refine⟨j+1,LU,Y++[LX],D'*kk,9671406556917033397649408*B',S4.trc b3 (j+2) k3,hlt,Yg,?_,HSI.out b3 k3,?_,K3.out,?_,HQ2.out⟩
             ·rw[HCu.out,show(S4.trc b3 (j+2) k3).ax=aR from HS4.out.2.2.2.1];exact HL4.out
             ·unfold Hid;rw[ZE,HYl.out];rfl
             exact EW
            case measure=>simp[intOf];omega
          ·obtain rfl:j=m.layers.length:=Ya;have hq:=HTq.out;rw[Zbr]at hq;have hq':(U,Y)=z6 nI m.input (zq nI) [] [] [] m.layers:=hq;have HF:Hid (RR=(⟨nI,U,zat (zq nI) Y⟩,0)):=by
            have h:=HRd5.out;rw[ZaH,<- hq']at h;exact h.symm
           obtain⟨OX,hOX⟩:∃OX,OX=zat (zq nI) Y:=⟨_,rfl⟩
           rw[<- hOX]at HF HLw HStp;have hnx:OX.length=S.nx:=HStp.out.nx;have HNx:=hid hnx;have hOl:OX.length<=16384:=by
            have h:=HQ.out.curr.1;rw[<- hOX]at h;have hv:zk (zh m.input (T.take m.layers.length))=true:=by
             have ht:T.take m.layers.length=T:=ZM VH;rw[ht];have hva:=HCh.out.valid;unfold zh
             cases hg:T.getLast? with
             | none=>exact HVi.out
             | some z=>exact Zau.1 hva z (ZaY hg)
            have:=(zae hv).2;omega
           have hUl:U.length<=1024:=by
            have h:=HTot.out;rw[<- hq']at h;have h2:(U.length:Int)<=1024:=h;omega
           have hcx:S.nx<=S.cx:=HStp.out.cx;have hLr:=HLw.out.un;have HCe:Hid (∀X,Stp gG wr X->LSt X gG nI U->X.cell? ⟨gL,10,none⟩=some (.slice S.ax S.nx S.cx)/\gL<X.heap.size/\X.cell? ⟨gG,2,none⟩=some (.slice none 0 0)/\gG<X.heap.size):=fun X hs hl=>
            ⟨(zaY.fn (HLw.out.stp hs hl).box).f10,(HLw.out.stp hs hl).box.lt,hl.g2,hl.lt⟩
           obtain⟨HOl,HUl,Hcx⟩:=hd3 hOl hUl hcx;clear hq hq' hOX hnx hOl hUl hcx HTq HRm HQ HStp HSi2 HTot
           go_upto_region 26 with fail
           refine zal 6 Yb Yb Yb Yb Yd (zfe gG nI wr U U 99 [.val (.pointer (some ⟨gG,2,none⟩)),.val (.slice none 0 0),.val (.pointer (some ⟨gL,0,none⟩)),.val (.pointer (some ⟨gL,0,none⟩)),.val (.pointer (some ⟨gL,10,none⟩)),.val (.slice S.ax S.nx S.cx)]) (fun g=>zfe.start YS g) ?_ ?_
           ·intro ops;simp only[Zo,Zw,zc1]
            refine⟨?v0,?_,?v2,?_,?_,?_,trivial⟩
            case v0|v2=>
             intro d y' X hJ hd hW;exact IU
            ·intro d y' X hJ hd hW;obtain⟨f10,flt,f2,fgl⟩:=HCe.out X hJ.st hJ.same;simp only[zaE,Region.binds,ZB,Zn,Zx,Z0,Z6]at hW;have h0:d 0=true:=Ye;have J0:=hJ.all 0 h0;simp only[GU,Zf,Zc]at J0;simp[ze,Act.put];generalize hg0:y' 0=y0;rw[hg0]at J0;clear hg0;obtain rfl:=J0;have HJ:=hid hJ;clear hJ hd hW h0;exact Ux
            ·exact IS
            ·intro d y' X hJ hd hW;exact IT
            ·intro d y' X hJ hd hW;obtain⟨f10,flt,f2,fgl⟩:=HCe.out X hJ.st hJ.same;simp only[zaE,Region.binds,ZB,Zn,Zx,Z0,Z6]at hW;have h4:d 4=true:=Ye;have J4:=hJ.all 4 h4;simp only[GU,Zf,Zc]at J4;simp[ze,Act.put];generalize hg4:y' 4=y4;rw[hg4]at J4;clear hg4;obtain rfl:=J4;have HJ:=hid hJ;clear hJ hd hW h4;exact Ux
           ·intro ops d y' X hA hJ;have J0:=hJ.all 0 (hA 0 Yd);have J1:=hJ.all 1 (hA 1 Yd);have J2:=hJ.all 2 (hA 2 Yd);have J5:=hJ.all 5 (hA 5 Yd);simp only[GU,Zf,Zc]at J0 J1 J2 J5;obtain⟨f10,flt,f2,fgl⟩:=HCe.out X hJ.st hJ.same;obtain⟨HLn,HSn⟩:=hd2 hJ.same hJ.st;clear hJ hA;simp only[Zo,Zw,ZG,ZO];simp[ze,Act.put];generalize y' 0=y0 at J0⊢;obtain rfl:=J0;generalize y' 1=y1 at J1⊢;obtain rfl:=J1;generalize y' 2=y2 at J2⊢;obtain rfl:=J2;generalize y' 5=y5 at J5⊢;obtain rfl:=J5;have HLX:=hid (HLw.out.stp HSn.out HLn.out);obtain⟨news,hsrc,_,hel⟩:=zf5.src zaX HLX.out.cur.at';rw[HNx.out]at hsrc;obtain⟨HSrc,HEl⟩:=hd2 hsrc hel;have hnx1:S.nx<=16384:=by rw[<- HNx.out];exact HOl.out
            clear hsrc hel f10 flt f2 fgl
            go_upto_region 27 with(at_builtin;(refine zaa rfl (.tmp 127) (.tmp 131) 28 28 rfl X.heap.size 53 (.agg #[.slice none 0 0,.bool false,.slice none 0 0,.slice none 0 0]) 4 80 Tryz.underlying28 Tryz.underlying28 Yb rfl Ya (.slice none 0 0) 0 [] rfl (Zaw _ _ _ _) S.ax S.nx S.cx news rfl HSrc.out Ya Yf (Za _) ?_;intro v' w5 hown hg hnx;obtain⟨b5,c5,rfl,hc5⟩:=zdZ hown;have hb5:Below X.heap.size X w5:=⟨hg.os,hg.tape,hg.output,hg.size,fun k hk=>hg.block k hk VM⟩;rw[ZR]at hown hc5⊢;rw[ZaV]at hown;have hO:=zmZ hown HNx.out (fun q x hx=>by obtain⟨p0,p1,p2,p3,e0,e1,e2,e3,e4⟩:=HEl.out q x hx;exact⟨p0,p1,p2,p3,e0,e1,e2,e3,zaX.below e4 hb5⟩) (by have:=HOl.out;omega);have HB5:=hid hb5;have hbw:Below gG w2 w5:=HLX.out.bl.trans (hb5.mono (Zan HLX.out.un.lt));have hgw:w.heap.size+1<gG:=Nat.lt_of_lt_of_eq HG2.out.lt HGg.out.symm;have HG5:=hid (HG2.out.belowB hbw hgw);have hfin:=zoh (c:=c5) HLX.out.un (by have:=HUl.out;omega) hb5 hO (by have:=HNx.out;omega) HG5.out.al (Zbc hgw);rw[HNx.out]at hfin;have HFin:=hid hfin;have y2:=(HLX.out.un.below hb5).g2;have yff:=(HLX.out.un.below hb5).fz;have ylt:=(HLX.out.un.below hb5).lt;have HBW:=hid hbw;have HGW:=hid hgw;clear hown hg hnx hb5 hO hbw hgw hfin))
            obtain⟨aU,cU,k0,k1,k2,hgr⟩:=HFin.out;have HGr:=hid hgr;have HB6:Hid (Below w.heap.size w (w5.setCell ⟨gG,2,none⟩ (.slice b5 S.nx c5))):=by
             have h1:Below gG w2 (w5.setCell ⟨gG,2,none⟩ (.slice b5 S.nx c5)):=HBW.out.setCell (p:=⟨gG,2,none⟩) (Za _) _;rw[HGg.out]at h1⊢;exact HB2.out.trans (h1.mono HB2.out.size)
            have HG6:Hid (zqx w (w5.setCell ⟨gG,2,none⟩ (.slice b5 S.nx c5)) (w.heap.size+1) (.int .i64 0) (.slice none 0 0) (.slice none 0 0)):=HG2.out.belowB (HBW.out.setCell (p:=⟨gG,2,none⟩) (Za _) _) HGW.out;have k3:gG<(w5.setCell ⟨gG,2,none⟩ (.slice b5 S.nx c5)).heap.size:=by simpa using ylt
            clear hgr HFin HG5 HBW y2 yff ylt HB5 HSrc HEl HCe hLr;generalize w5.setCell ⟨gG,2,none⟩ (.slice b5 S.nx c5)=W9 at *;obtain⟨g0,g1,g2,gf,glt,gge,_⟩:=HG6.out;have HPo:Hid (ziS w RR (.returned (.tuple #[.agg #[.int .i64 (nI:Int),.slice aU U.length cU,.slice b5 S.nx c5],.int .i64 0])) (((W9.setCell ⟨w.heap.size+1,0,none⟩ (.int .i64 (nI:Int))).setCell ⟨w.heap.size+1,1,none⟩ (.slice aU U.length cU)).setCell ⟨w.heap.size+1,2,none⟩ (.slice b5 S.nx c5))):=by
             rw[HF.out];exact⟨_,rfl,HGr.out,ze4 HB6.out gge _ _ _⟩
            go_wp2
            refine Zp (v:=.tuple #[.agg #[.int .i64 (nI:Int),.slice aU U.length cU,.slice b5 S.nx c5],.int .i64 0]) Y7 rfl ?_
            exact HPo.out
  ·omega
 ·rw[Zg he]at HRd;generalize(zI m).2.2=er at *;generalize(zI m).2.1=ei at *;have t1:(er != 0)=true:=Y2;have HF:=hid HRd.out.symm;obtain⟨g0,g1,g2,gf,glt,gge,_⟩:=HG1.out;clear he hI;go_wp2
  refine Zp (v:=.tuple #[.agg #[.int .i64 0,.slice none 0 0,.slice none 0 0],.int .i64 er]) Y7 rfl ?_
  exact zeG HF.out HB1.out gge
theorem zsv(w:World)(v:Nat):Calls Tryz.prog 22 #[.int .i64 (v:Int)] w (za2 w (zbv v)):=by
 obtain⟨HX,HB⟩:=hd2 (zfo.alloc (za6 w) 53) ((Ze w.heap.size w).alloc (Za _) (.cells #[.slice none 0 0,.bool false,.slice none 0 0,.slice none 0 0] 53))
 go_enter Tryz.func22,Tryz.ntmps22
 go_upto_region 1 with fail
 generalize w.alloc (.cells #[.slice none 0 0,.bool false,.slice none 0 0,.slice none 0 0] 53)=W at *;have HO:=hid (zsV W 1 Yd Yd)
 go_wp2_with fail
 refine HO.out.mono ?_
 rintro e w1 ⟨v1,rfl,hv,hb⟩;have hv':RatV w1 v1 (zc 1):=hv;obtain⟨p1,p2,p3,rfl,hrc⟩:=zbU.of hv';obtain⟨HRC,HX1⟩:=hd2 hrc (HX.out.below hb);have HB1:=htr HB hb;obtain⟨an,ad,cn,cd,rfl,rfl,rfl,l1,l2,u1,u2⟩:=hrc.ex;clear hv hv' hb HO u1 u2 hrc;obtain⟨HX2,HB2,HF2⟩:=hd3 (HX1.out.below ((Ze w1.heap.size w1).alloc (Za _) (.cells #[.int .i64 (v:Int),.bool (zc 1).neg,.slice an (zc 1).num.length cn,.slice ad (zc 1).den.length cd] 84))) (HB1.out.trans (((Ze w1.heap.size w1).alloc (Za _) (.cells #[.int .i64 (v:Int),.bool (zc 1).neg,.slice an (zc 1).num.length cn,.slice ad (zc 1).den.length cd] 84)).mono HB1.out.size)) (zk8 (v:=v) (an:=an) (ad:=ad) (cn:=cn) (cd:=cd) (w:=w1.alloc (.cells #[.int .i64 (v:Int),.bool (zc 1).neg,.slice an (zc 1).num.length cn,.slice ad (zc 1).den.length cd] 84)) (b:=some ⟨w1.heap.size,0,none⟩) rfl Yc (by rw[World.cell?_alloc_at _ _ _ _ rfl];rfl) (by rw[World.cell?_alloc_at _ _ _ _ rfl];rfl) (by rw[World.cell?_alloc_at _ _ _ _ rfl];rfl) (by rw[World.cell?_alloc_at _ _ _ _ rfl];rfl) (HRC.out.below ((Ze _ _).alloc (Za _) _)));obtain⟨w2,hw2⟩:∃w2,w2=w1.alloc (.cells #[.int .i64 (v:Int),.bool (zc 1).neg,.slice an (zc 1).num.length cn,.slice ad (zc 1).den.length cd] 84):=⟨_,rfl⟩
 rw[<- hw2]at HX2 HB2 HF2;obtain⟨r0,r1,r2,r3,rf,rlt⟩:=HX2.out.bx;have HO:=hid (HF2.out.val.ret HX2.out.al HB2.out (Za _));obtain⟨x0,x1,x2,x3,xf,xlt⟩:=HX1.out.bx;generalize zbv v=R at *;rw[hw2,zfW xlt]at HO;clear HF2 HRC HX1 HX2 r0 r1 r2 r3 rf rlt;go_wp2;exact Zp (by simp[results,Tryz.results22,go_sem,x0,x1,x2,x3,xlt,Zbc xlt]) rfl HO.out
def eqA(f g:zl):Bool:=decide (f.ts=g.ts/\f.c=g.c)
theorem zfA(f g:zl):eqA f g=true ↔ f=g:=by
 unfold eqA;rw[ZC]
 constructor
 ·rintro⟨h1,h2⟩;cases f;cases g;simp only at h1 h2;subst h1 h2;rfl
 ·rintro rfl;exact⟨rfl,rfl⟩
theorem zmY{w:World}{v u:Value}{f g:zl}(hf:zap w v f)(hg:zap w u g):
  Calls Tryz.prog 21 #[v,u] w fun e w'=>e=.returned (.bool (eqA f g))/\Below w.heap.size w w':=by
 obtain⟨a,c,an,ad,cn,cd,rfl,hc,ht,l1,l2,u1,u2⟩:=hf.parts;obtain⟨b,d,bn,bd,dn,dd,rfl,hd,hs,m1,m2,v1,v2⟩:=hg.parts;have q1:=ht.len;have q2:=hs.len;obtain⟨HT,HS⟩:=hd2 ht hs;have HCf:Hid (RatV w (.agg #[.bool (zc f.c).neg,.slice an (zc f.c).num.length cn,.slice ad (zc f.c).den.length cd]) (zc f.c)):=⟨an,ad,cn,cd,rfl,l1,l2,u1,u2⟩
 have HCg:Hid (RatV w (.agg #[.bool (zc g.c).neg,.slice bn (zc g.c).num.length dn,.slice bd (zc g.c).den.length dd]) (zc g.c)):=⟨bn,bd,dn,dd,rfl,m1,m2,v1,v2⟩
 obtain⟨RR,hRR⟩:∃RR,RR=eqA f g:=⟨_,rfl⟩
 have HRR:=hid hRR;rw[<- hRR];have x1:=zbl.alloc w (.slice a f.ts.length c) (.bool (zc f.c).neg) (.slice an (zc f.c).num.length cn) (.slice ad (zc f.c).den.length cd) 53;have b1:=blA w (.cells #[.slice a f.ts.length c,.bool (zc f.c).neg,.slice an (zc f.c).num.length cn,.slice ad (zc f.c).den.length cd] 53);have s1:(w.alloc (.cells #[.slice a f.ts.length c,.bool (zc f.c).neg,.slice an (zc f.c).num.length cn,.slice ad (zc f.c).den.length cd] 53)).heap.size=w.heap.size+1:=Yc;obtain⟨HX1,HB1,HS1⟩:=hd3 x1 b1 s1;clear x1 b1 s1 hRR ht hs l1 l2 u1 u2 m1 m2 v1 v2 hf hg
 go_enter Tryz.func21,Tryz.ntmps21
 go_upto_region 1 with fail
 generalize w.alloc (.cells #[.slice a f.ts.length c,.bool (zc f.c).neg,.slice an (zc f.c).num.length cn,.slice ad (zc f.c).den.length cd] 53)=W1 at *;have x2:=zbl.alloc W1 (.slice b g.ts.length d) (.bool (zc g.c).neg) (.slice bn (zc g.c).num.length dn) (.slice bd (zc g.c).den.length dd) 53;have b2:=blA W1 (.cells #[.slice b g.ts.length d,.bool (zc g.c).neg,.slice bn (zc g.c).num.length dn,.slice bd (zc g.c).den.length dd] 53);rw[HS1.out]at x2;obtain⟨HX1',HX2⟩:=hd2 (HX1.out.below b2) x2;have HB2:=htr HB1 b2;clear HX1 HB1 x2 b2;generalize W1.alloc (.cells #[.slice b g.ts.length d,.bool (zc g.c).neg,.slice bn (zc g.c).num.length dn,.slice bd (zc g.c).den.length dd] 53)=W2 at *;obtain⟨x0,x1,x2,x3,xf,xlt⟩:=HX1'.out;obtain⟨y0,y1,y2,y3,yf,ylt⟩:=HX2.out
 by_cases hl:f.ts.length=g.ts.length
 case neg=>
  have hne:eqA f g=false:=by
   rw[<- Zbz,zfA];intro e;exact hl Ul
  have t1:((f.ts.length:Int) != (g.ts.length:Int))=true:=Xi;have t2:decide (¬ (f.ts.length:Int)=(g.ts.length:Int))=true:=Yi;have HNe:=hid hne;clear hne hl;go_wp2;go_ret;exact⟨zi (HRR.out.trans HNe.out).symm,HB2.out⟩
 have t1:((f.ts.length:Int) != (g.ts.length:Int))=false:=by rw[hl];simp
 have t2:decide (¬ (f.ts.length:Int)=(g.ts.length:Int))=false:=Yi;obtain⟨HSm,HL⟩:=hd2 (znL (HCf.out.below HB2.out) (HCg.out.below HB2.out)) hl;clear hl
 by_cases hcc:f.c=g.c
 case neg=>
  have hsm:decide (zc f.c=zc g.c)=false:=Zj fun e=>hcc XS
  rw[hsm]at HSm;have hne:eqA f g=false:=by
   rw[<- Zbz,zfA];intro e;exact hcc Ul
  have HNe:=hid hne;clear hsm hne hcc
  go_wp2_with fail
  refine HSm.out.mono ?_
  rintro e w3 ⟨rfl,hb3⟩;have HB3:=htr HB2 hb3;clear hb3;go_wp2;go_ret;exact⟨zi (HRR.out.trans HNe.out).symm,HB3.out⟩
 have hsm:decide (zc f.c=zc g.c)=true:=Zk (by rw[hcc]);rw[hsm]at HSm;have HCc:=hid hcc;clear hsm hcc
 go_wp2_with fail
 refine HSm.out.mono ?_
 rintro e w3 ⟨rfl,hb3⟩;have HB3:=htr HB2 hb3;obtain⟨HX3,HY3⟩:=hd2 (HX1'.out.below hb3) (HX2.out.below hb3);clear hb3 HSm x0 x1 x2 x3 xf xlt y0 y1 y2 y3 yf ylt t1 t2 HX1' HX2;go_wp2
 go_loopw [5] (fun i wr=>∃j:Nat,j<=f.ts.length/\i=.int .i64 (j:Int)/\Hid (f.ts.take j=g.ts.take j)/\Hid (Below w3.heap.size w3 wr)) (fun i _=>f.ts.length-(intOf i).toNat)
 case atStart=>exact⟨0,Zs _,rfl,Xq,Ze _ _⟩
 case round=>
  obtain⟨j,hj,rfl,HTk,HB⟩:=hrel;have HBw:=htr HB3 HB.out;have x0:=(HX3.out.below HB.out).c0;have xlt:=(HX3.out.below HB.out).lt;have y0:=(HY3.out.below HB.out).c0;have ylt:=(HY3.out.below HB.out).lt
  by_cases hlt:j<f.ts.length
  ·have hltm:j<g.ts.length:=by have:=HL.out;omega
   obtain⟨b1,o1,⟨u,p⟩,p0,p1,p2,p3,ha1,hb1,hx,e0,e1,e2,e3,rfl,hrc⟩:=(HT.out.below zby HBw.out).pick hlt;obtain⟨b2,o2,⟨v,q⟩,q0,q1',q2',q3,ha2,hb2,hy,g0,g1,g2,g3,rfl,hrd⟩:=(HS.out.below zby HBw.out).pick hltm;simp only at e0 g0 hrc hrd;obtain⟨HXx,HYy,TA,TB⟩:=hd4 hx hy (zar hx) (zar hy);have HV1:=hrc.val;have HV2:=hrd.val;obtain⟨an',ad',cn',cd',rfl,rfl,rfl,_⟩:=hrc.ex;obtain⟨bn',bd',dn',dd',rfl,rfl,rfl,_⟩:=hrd.ex;have HC:Hid (∀e,Calls Tryz.prog 24 #[.agg #[.bool (zc p).neg,.slice an' (zc p).num.length cn',.slice ad' (zc p).den.length cd'],.agg #[.bool (zc q).neg,.slice bn' (zc q).num.length dn',.slice bd' (zc q).den.length dd']] (ext wr e) fun e1 w'=>e1=.returned (.bool (decide (zc p=zc q)))/\Below (ext wr e).heap.size (ext wr e) w'):=fun e=>
    znL (HV1.below (zF wr e)) (HV2.below (zF wr e))
   have k0:=zz x0 xlt;have k1:=zz y0 ylt;have f0:=zz e0 hb1;have f1:=zz e1 hb1;have f2:=zz e2 hb1;have f3:=zz e3 hb1;have h0:=zz g0 hb2;have h1:=zz g1 hb2;have h2:=zz g2 hb2;have h3:=zz g3 hb2;subst ha1 ha2;clear hx hy HV1 HV2 hrc hrd
   by_cases huv:u=v
   ·have hs1:((u:Int) != (v:Int))=false:=by rw[huv];simp
    have HUV:=hid huv;clear huv
    by_cases hpq:p=q
    ·have hs2:decide (zc p=zc q)=true:=Zk (by rw[hpq]);rw[hs2]at HC;have HPQ:=hid hpq;clear hs2 hpq
     go_upto_region 6 with fail
     refine zx Yb Yb ?_
     repeat (go_big_quiet_step (first|(go_at_call 24;exact Calls.ext_of (HC.out _))))
     refine wpQuiet_nil ?_
     intro _ hw';obtain⟨nq,hw''⟩:=hw';subst hw'';have HBN:=hid (HB.out.trans ((zF wr nq).mono HB.out.size));generalize ext wr nq=w5 at *;go_wp2;go_roundw
     case rel=>exact⟨j+1,hlt,Yg,by unfold Hid;rw[TA.out,TB.out,HTk.out,HUV.out,HPQ.out],HBN.out⟩
     case measure=>simp[intOf];omega
    ·have hs2:decide (zc p=zc q)=false:=Zj fun e=>hpq XS
     rw[hs2]at HC;have hne:Hid (RR=false):=by
      unfold Hid;rw[HRR.out,<- Zbz,zfA];rintro rfl;have h1:=HXx.out.symm.trans HYy.out;cases h1;exact hpq rfl
     clear hs2 hpq
     go_upto_region 6 with fail
     refine zx Yb Yb ?_
     repeat (go_big_quiet_step (first|(go_at_call 24;exact Calls.ext_of (HC.out _))))
     refine wpQuiet_nil ?_
     intro _ hw';obtain⟨nq,hw''⟩:=hw';subst hw'';have HBN:=hid (HBw.out.trans ((zF wr nq).mono HBw.out.size));generalize ext wr nq=w5 at *;go_wp2;go_ret;exact⟨zi hne.out.symm,HBN.out⟩
   ·have hs1:((u:Int) != (v:Int))=true:=Xi;have hne:Hid (RR=false):=by
     unfold Hid;rw[HRR.out,<- Zbz,zfA];rintro rfl;have h1:=HXx.out.symm.trans HYy.out;cases h1;exact huv rfl
    clear huv
    go_upto_region 6 with fail
    refine zx Yb Yb ?_
    repeat (go_big_quiet_step (first|(go_at_call 24;exact Calls.ext_of (HC.out _))))
    refine wpQuiet_nil ?_
    intro _ hw';obtain⟨nq,hw''⟩:=hw';subst hw'';have HBN:=hid (HBw.out.trans ((zF wr nq).mono HBw.out.size));generalize ext wr nq=w5 at *;go_wp2;go_ret;exact⟨zi hne.out.symm,HBN.out⟩
  ·obtain rfl:j=f.ts.length:=Ya;have he2:Hid (RR=true):=by
    have h1:=HTk.out;rw[Zae,HL.out,Zae]at h1;unfold Hid;rw[HRR.out,zfA];cases f;cases g;simp only at h1;have h2:=HCc.out;simp only at h2;rw[h1,h2]
   go_wp2;go_ret;exact⟨zi he2.out.symm,HBw.out⟩
abbrev zrw(w:World)(base:Nat)(v:Value)(L:List (Nat×Rat)):Prop:=zdT zes noI 84 w base v L
def zqI(w:World)(base:Nat)(v:Value)(L:List (Nat×Rat))(e:Ending)(w':World):Prop:=∃a c,e=.returned (.slice a L.length c)/\zrw w' base (.slice a L.length c) L/\w.grownBy w' v.ownBlock/\zi7 w v (.slice a L.length c)
theorem zhl{w w':World}{row:Option Nat}(hb:Below w.heap.size w w'):w.grownBy w' row:=⟨hb.os,hb.tape,hb.output,hb.size,fun k hk _=>hb.block k hk⟩
theorem zkc{w W w':World}{v:Value}(hb:Below w.heap.size w W)(hg:W.grownBy w' v.ownBlock):w.grownBy w' v.ownBlock:=
 ⟨hg.os.trans hb.os,hg.tape.trans hb.tape,hg.output.trans hb.output,Zi hb.size hg.size,fun k hk hr=>(hg.block k (Zb hk hb.size) hr).trans (hb.block k hk)⟩
theorem zml{w W w4:World}{base n c:Nat}{a b4:Option Addr}{k4 v:Nat}{L:List (Nat×Rat)}{q:Rat}(he:L++zbc v q=L++[(v,q)])(hn:L.length=n)(hb:Below w.heap.size w W)(ho:zrw w4 base (.slice b4 (n+1) k4) (L++[(v,q)]))(hg:W.grownBy w4 (Value.slice a n c).ownBlock)(hx:zi7 W (.slice a n c) (.slice b4 (n+1) k4)):
  zqI w base (.slice a n c) (L++zbc v q) (.returned (.slice b4 (n+1) k4)) w4:=by
 rw[he];have hl:(L++[(v,q)]).length=n+1:=by simp[hn]
 refine⟨b4,k4,by rw[hl],by rw[hl];exact ho,zkc hb hg,?_⟩
 rw[hl];exact hx.imp id (fun⟨g,e,h⟩=>⟨g,e,Zi hb.size h⟩)
theorem zcE{w:World}{base n v:Nat}{a:Option Addr}{c:Nat}{p1 p2 p3:Value}{L:List (Nat×Rat)}{q:Rat}(hown:zrw w base (.slice a n c) L)(hn:L.length=n)(hbase:base<=w.heap.size)
 (hq:zbU w p1 p2 p3 q)(hql:zD (zc q) 1048576)(hnb:n<=1000000):
  Calls Tryz.prog 81 #[.slice a n c,.agg #[.int .i64 (v:Int),p1,p2,p3]] w (zqI w base (.slice a n c) (L++zbc v q)):=by
 have hV:=hq.val;have hql1:=hql.num;have b1:=blA w (.cells #[.int .i64 (v:Int),p1,p2,p3] 84);obtain⟨HX,HB,HOw,HRC,HN,HSg⟩:=hd6 (zbl.alloc w (.int .i64 (v:Int)) p1 p2 p3 84) b1 (hown.below zby b1) (hq.below b1) hn (zkX (hV.below b1) Ya);have hb1:base<=(w.alloc (.cells #[.int .i64 (v:Int),p1,p2,p3] 84)).heap.size:=Zi hbase b1.size;obtain⟨an,ad,cn,cd,rfl,rfl,rfl,_⟩:=hq.ex;rw[zH]at HSg;clear hown hV b1 hq
 go_enter Tryz.func81,Tryz.ntmps81
 go_upto_region 1 with fail
 generalize w.alloc (.cells #[.int .i64 (v:Int),.bool (zc q).neg,.slice an (zc q).num.length cn,.slice ad (zc q).den.length cd] 84)=W at *;obtain⟨x0,x1,x2,x3,xf,xlt⟩:=HX.out
 go_wp2_with fail
 refine HSg.out.mono ?_
 rintro e w1 ⟨rfl,hb⟩;have HX1:=hid (HX.out.below hb);have HB1:=htr HB hb;obtain⟨HOw1,HRC1⟩:=hd2 (HOw.out.below zby hb) (HRC.out.below hb);have hb2:=Zi hb1 hb.size;clear hb HSg HX HB HOw HRC x0 x1 x2 x3 xf xlt
 by_cases hz:q=0
 ·have hs:zdS q=0:=zeo.2 hz;rw[hs];have e1:zbc v q=[]:=by unfold zbc;rw[Zm hz]
  have HE:Hid (L++zbc v q=L):=by unfold Hid;rw[e1,ZaK]
  clear hz hs e1;go_wp2
  refine Zp (v:=.slice a n c) Vd rfl ?_
  rw[HE.out];subst hn;exact⟨a,c,rfl,HOw1.out,zhl HB1.out,.inl rfl⟩
 ·have hs:(zdS q==0)=false:=by rw[Zaf];exact fun e=>hz (zeo.1 e)
  have hs2:decide (zdS q=0)=false:=Zj fun e=>hz (zeo.1 e)
  have HE:Hid (L++zbc v q=L++[(v,q)]):=by unfold Hid zbc;rw[Zg hz]
  generalize zdS q=sg at *;clear hz;obtain⟨x0,x1,x2,x3,xf,xlt⟩:=HX1.out;have hal:=blA w1 (.cells #[.int .i64 (v:Int),.bool (zc q).neg,.slice an (zc q).num.length cn,.slice ad (zc q).den.length cd] 84);obtain⟨HRow,HOw2⟩:=hd2 (zfp.alloc zby (show zes w1 (.int .i64 (v:Int)) (.bool (zc q).neg) (.slice an (zc q).num.length cn) (.slice ad (zc q).den.length cd) (v,q)from⟨rfl,HRC1.out⟩) 84) (HOw1.out.below zby hal);have HB2:=htr HB1 hal;have hb3:=Zi hb2 hal.size;clear hal
  go_wp2_with (at_builtin;refine zeF (T:=84) zby (.int .i64 0) (.bool false) (.slice none 0 0) (.slice none 0 0) 64 Xx rfl (.tmp 10) (.tmp 12) 47 rfl base Tryz.underlying47 Yb Ya (.slice a n c) n L HN.out rfl HOw2.out _ (v,q) HRow.out rfl Ya hb3 ?_;intro b4 k4 w4 hown4 hk4 hg4 hbe4 hnx4;have HPo:=hid (zml (L:=L) HE.out HN.out HB2.out hown4 hg4 hnx4);clear hown4 hg4 hbe4 hnx4)
  exact Zp (v:=.slice b4 (n+1) k4) Vd rfl HPo.out
theorem zhd(v:Nat)(q:Rat):(zbc v q).length<=1:=by unfold zbc;split<;>simp
theorem ziJ:∀(l:List (Nat×Rat)) (v:Nat) (q:Rat),(zex l v q).length<=l.length+1
 | [],v,q=>zhd v q
 | (u,p)::r,v,q=>by
  show(if u=v then zbc v (p+q)++r else if v<u then zbc v q++(u,p)::r else(u,p)::zex r v q).length<=_
  have h1:=zhd v (p+q);have h2:=zhd v q;have h3:=ziJ r v q
  split
  ·simp only[ZE,ZH];omega
  ·split
   ·simp only[ZE,ZH];omega
   ·simp only[ZH];omega
theorem zjc:∀{a b:List (Nat×Rat)} {v:Nat} {q:Rat},(∃t∈a,v<=t.1)->zex (a++b) v q=zex a v q++b
 | [],_,_,_,h=>by obtain⟨t,ht,_⟩:=h;cases ht
 | (u,p)::r,b,v,q,h=>by
  show(if u=v then zbc v (p+q)++(r++b)else if v<u then zbc v q++(u,p)::(r++b)else(u,p)::zex (r++b) v q)=(if u=v then zbc v (p+q)++r else if v<u then zbc v q++(u,p)::r else(u,p)::zex r v q)++b
  split
  ·rw[ZW]
  ·split
   ·rw[ZW];rfl
   ·rename_i h1 h2
    obtain⟨t,ht,hv⟩:=h;rw[zjc ⟨t,?_,hv⟩];rfl
    rcases Za7.1 ht with e|e
    ·subst e;simp only at hv;omega
    ·exact e
theorem zqw{l:List (Nat×Rat)}:∀{lo:Nat},zbB l lo->∀(j k:Nat) (s t:Nat×Rat),j<k->l[j]? =some s->l[k]? =some t->s.1<t.1:=by
 induction l with
 | nil=>intro lo _ j k s t _ h;simp at h
 | cons a r ih=>
  intro lo h j k s t hjk hs ht;obtain⟨u,p⟩:=a;obtain⟨h1,h2,h3⟩:=h
  cases k with
  | zero=>omega
  | succ k=>
   rw[Zc]at ht
   cases j with
   | zero=>
    cases hs;have:=(zeZ h3 (Zq ht)).1;show u<t.1
    omega
   | succ j=>
    rw[Zc]at hs;exact ih h3 j k s t Ya hs ht
def PlI(F:List (Nat×Rat))(v:Nat)(q:Rat)(j:Nat)(L:List (Nat×Rat))(dn:Bool):Prop:=(dn=false/\L=F.take j/\zrX (F.take j) v)∨(dn=true/\L=zex (F.take j) v q/\∃t∈F.take j,v<=t.1)
section
variable {F:List (Nat×Rat)} {v:Nat} {q:Rat} {j:Nat} {L:List (Nat×Rat)} {u:Nat} {p:Rat}
theorem PlI.len{dn:Bool}(h:PlI F v q j L dn):L.length<=j+1:=by
 rcases h with⟨_,rfl,_⟩|⟨_,rfl,_⟩
 ·rw[Z8];omega
 ·have:=ziJ (F.take j) v q;rw[Z8]at this;omega
theorem zaG{α:Type}{F:List α}{j:Nat}{x:α}(h:F[j]? =some x):F.take (j+1)=F.take j++[x]:=by rw[Zap,h];rfl
theorem zoI:∀{l:List (Nat×Rat)} {lo:Nat} {t:Nat×Rat},zbB l lo->t∈l->t.2≠0
 | [],_,_,_,h=>by cases h
 | (u,p)::r,lo,t,⟨_,h2,h3⟩,h=>by
  rcases Za7.1 h with rfl|h
  ·exact h2
  ·exact zoI h3 h
theorem zfR(hc:zbB F 0)(h:F[j]? =some (u,p)):zbc u p=[(u,p)]:=by
 unfold zbc;rw[Zg (zoI hc (Zq h))]
theorem PlI.eq(h:PlI F v q j L false)(hx:F[j]? =some (v,p)):PlI F v q (j+1) (L++zbc v (p+q)) true:=by
 rcases h with⟨_,rfl,hl⟩|⟨h,_⟩
 ·refine .inr ⟨rfl,?_,(v,p),?_,Za _⟩
  ·rw[zaG hx,show([(v,p)]:List (Nat×Rat))=(v,p)::[]from rfl,zrA hl,ZaK]
  ·rw[zaG hx];simp
 ·cases h
theorem PlI.gt(h:PlI F v q j L false)(hc:zbB F 0)(hx:F[j]? =some (u,p))(hu:v<u):PlI F v q (j+1) ((L++zbc v q)++zbc u p) true:=by
 rcases h with⟨_,rfl,hl⟩|⟨h,_⟩
 ·refine .inr ⟨rfl,?_,(u,p),?_,Zan hu⟩
  ·rw[zaG hx,show([(u,p)]:List (Nat×Rat))=(u,p)::[]from rfl,zrt hl hu,zfR hc hx]
  ·rw[zaG hx];simp
 ·cases h
theorem PlI.lt(h:PlI F v q j L false)(hc:zbB F 0)(hx:F[j]? =some (u,p))(hu:u<v):PlI F v q (j+1) (L++zbc u p) false:=by
 rcases h with⟨_,rfl,hl⟩|⟨h,_⟩
 ·refine .inl ⟨rfl,?_,?_⟩
  ·rw[zaG hx,zfR hc hx]
  ·rw[zaG hx];intro t ht
   rcases Zar.1 ht with ht|ht
   ·exact hl t ht
   ·rw[List.mem_singleton]at ht;rw[ht];exact hu
 ·cases h
theorem PlI.dn(h:PlI F v q j L true)(hc:zbB F 0)(hx:F[j]? =some (u,p)):v<u/\PlI F v q (j+1) (L++zbc u p) true:=by
 rcases h with⟨h,_⟩|⟨_,rfl,t,ht,hv⟩
 ·cases h
 ·obtain⟨i,hi⟩:=ZaX ht;have hlt:=(Zr.1 hi).1;rw[Z8]at hlt;rw[ZaZ Ya]at hi;have h2:=zqw hc i j t (u,p) Ya hi hx
  refine⟨ZaB hv h2,.inr ⟨rfl,?_,t,?_,hv⟩⟩
  ·rw[zaG hx,zjc ⟨t,ht,hv⟩,zfR hc hx]
  ·rw[zaG hx];exact ZaQ _ ht
end
structure PlB (w W:World) (F:List (Nat×Rat)) (k v q:Rat) (a an ad:Option Addr) (n c nn cn nd cd:Nat) (b:Bool) (qb:Bool) (qn qd:Option Addr) (qnn qcn qnd qcd:Nat):Prop where
 fb:zbl W w.heap.size (.slice a n c) (.bool b) (.slice an nn cn) (.slice ad nd cd)
 cb:za4 W (w.heap.size+1) (.bool qb) (.slice qn qnn qcn) (.slice qd qnd qcd)
 rb:zbl W (w.heap.size+2) (.slice none 0 0) (.bool false) (.slice none 0 0) (.slice none 0 0)
 ra:zbC zco W (w.heap.size+2)
 tm:zag W a F
 kc:zbU W (.bool b) (.slice an nn cn) (.slice ad nd cd) k
 qv:RatV W (.agg #[.bool qb,.slice qn qnn qcn,.slice qd qnd qcd]) (zc q)
 bl:Below w.heap.size w W
theorem PlB.below{w W W':World}{F:List (Nat×Rat)}{k v q:Rat}{a an ad:Option Addr}{n c nn cn nd cd:Nat}{b qb:Bool}{qn qd:Option Addr}{qnn qcn qnd qcd:Nat}(h:PlB w W F k v q a an ad n c nn cn nd cd b qb qn qd qnn qcn qnd qcd)(hb:Below W.heap.size W W'):PlB w W' F k v q a an ad n c nn cn nd cd b qb qn qd qnn qcn qnd qcd:=
 ⟨h.fb.below hb,h.cb.below hb,h.rb.below hb,h.ra.below hb h.rb.lt,h.tm.below zby hb,h.kc.below hb,h.qv.below hb,h.bl.trans (hb.mono h.bl.size)⟩
theorem zsF{w:World}{vf vq:Value}{f:zl}{v:Nat}{q:Rat}(hf:zap w vf f)(hq:RatV w vq (zc q))(hcan:f.Can)(hfb:∀t∈f.ts,zD (zc t.2) 524286)(hql:zD (zc q) 524286)(hs:∀p,(v,p)∈f.ts->zD (zc (p+q)) 1048576)(few:f.ts.length<=500000):
  Calls Tryz.prog 79 #[vf,.int .i64 (v:Int),vq] w (za2 w ⟨zex f.ts v q,f.c⟩):=by
 obtain⟨a,c,an,ad,cn,cd,rfl,hc,ht,l1,l2,u1,u2⟩:=hf.parts;obtain⟨qn,qd,qcn,qcd,rfl,m1,m2,v1,v2⟩:=hq.ex;obtain⟨HCan,HFb,HQl,HSm⟩:=hd4 (show zbB f.ts 0 from hcan) hfb hql hs;obtain⟨RR,hRR⟩:∃RR:zl,RR=⟨zex f.ts v q,f.c⟩:=⟨_,rfl⟩
 have HRR:=hid hRR;rw[<- hRR];have b1:=blA w (.cells #[.slice a f.ts.length c,.bool (zc f.c).neg,.slice an (zc f.c).num.length cn,.slice ad (zc f.c).den.length cd] 53);have s1:(w.alloc (.cells #[.slice a f.ts.length c,.bool (zc f.c).neg,.slice an (zc f.c).num.length cn,.slice ad (zc f.c).den.length cd] 53)).heap.size=w.heap.size+1:=Yc;have x1:=zbl.alloc w (.slice a f.ts.length c) (.bool (zc f.c).neg) (.slice an (zc f.c).num.length cn) (.slice ad (zc f.c).den.length cd) 53;obtain⟨W1,hW1⟩:∃W1,W1=w.alloc (.cells #[.slice a f.ts.length c,.bool (zc f.c).neg,.slice an (zc f.c).num.length cn,.slice ad (zc f.c).den.length cd] 53):=⟨_,rfl⟩
 rw[<- hW1]at b1 s1 x1;have b2:=blA W1 (.cells #[.bool (zc q).neg,.slice qn (zc q).num.length qcn,.slice qd (zc q).den.length qcd] 51);have s2:(W1.alloc (.cells #[.bool (zc q).neg,.slice qn (zc q).num.length qcn,.slice qd (zc q).den.length qcd] 51)).heap.size=w.heap.size+2:=by simp[s1]
 have x2:=za4.alloc W1 (.bool (zc q).neg) (.slice qn (zc q).num.length qcn) (.slice qd (zc q).den.length qcd) 51;rw[s1]at x2;obtain⟨W2,hW2⟩:∃W2,W2=W1.alloc (.cells #[.bool (zc q).neg,.slice qn (zc q).num.length qcn,.slice qd (zc q).den.length qcd] 51):=⟨_,rfl⟩
 rw[<- hW2]at b2 s2 x2;have b3:=blA W2 (.cells #[.slice none 0 0,.bool false,.slice none 0 0,.slice none 0 0] 53);have x3:=zfo.alloc (za6 W2) 53;rw[s2]at x3;obtain⟨W3,hW3⟩:∃W3,W3=W2.alloc (.cells #[.slice none 0 0,.bool false,.slice none 0 0,.slice none 0 0] 53):=⟨_,rfl⟩
 rw[<- hW3]at b3 x3;have b23:=b2.trans (b3.mono b2.size);have b13:=b1.trans (b23.mono b1.size);have HP:Hid (PlB w W3 f.ts f.c 0 q a an ad f.ts.length c (zc f.c).num.length cn (zc f.c).den.length cd (zc f.c).neg (zc q).neg qn qd (zc q).num.length qcn (zc q).den.length qcd):=
  ⟨x1.below b23,x2.below b3,x3.bx,x3.al,ht.below zby b13,zbU.below ⟨an,ad,cn,cd,rfl,rfl,rfl,l1,l2,u1,u2⟩ b13,hq.below b13,b13⟩
 have HW:Hid (W3=((w.alloc (.cells #[.slice a f.ts.length c,.bool (zc f.c).neg,.slice an (zc f.c).num.length cn,.slice ad (zc f.c).den.length cd] 53)).alloc (.cells #[.bool (zc q).neg,.slice qn (zc q).num.length qcn,.slice qd (zc q).den.length qcd] 51)).alloc (.cells #[.slice none 0 0,.bool false,.slice none 0 0,.slice none 0 0] 53)):=by unfold Hid;rw[hW3,hW2,hW1]
 clear x1 x2 x3 b1 b2 b3 s1 s2 b23 b13 hW1 hW2 hW3 hf hq ht u1 u2 v1 v2 hfb hql hs hcan hRR l1 l2 m1 m2
 go_enter Tryz.func79,Tryz.ntmps79
 go_upto_region 1 with fail
 rw[<- HW.out];clear HW;go_wp2
 go_loopw [7,8,9] (fun o d i wr=>∃(j:Nat) (L:List (Nat×Rat)) (dn:Bool) (aO:Option Addr) (cO:Nat),j<=f.ts.length/\o=.slice aO L.length cO/\d=.bool dn/\i=.int .i64 (j:Int)/\Hid (PlI f.ts v q j L dn)/\Hid (zrw wr W3.heap.size (.slice aO L.length cO) L)/\Hid (Below W3.heap.size W3 wr)) (fun _ _ i _=>f.ts.length-(intOf i).toNat)
 case atStart=>exact⟨0,[],false,none,0,Zs _,rfl,rfl,rfl,.inl ⟨rfl,rfl,(by intro t ht;cases ht)⟩,zdT.nil _ _,Ze _ _⟩
 case round=>
  obtain⟨j,L,dn,aO,cO,hj,rfl,rfl,rfl,HI,HOw,HB⟩:=hrel;have HPr:=hid (HP.out.below HB.out);have hLl:L.length<=500001:=by have:=HI.out.len;omega
  obtain⟨nL,hnL⟩:∃nL,nL=L.length:=⟨_,rfl⟩
  rw[<- hnL]at HOw hLl⊢;have HNL:=hid hnL.symm;clear hnL
  by_cases hlt:j<f.ts.length
  ·obtain⟨bF,oF,⟨u,p⟩,p0,p1,p2,p3,haF,hbF,hx,e0,e1,e2,e3,rfl,hrc⟩:=HPr.out.tm.pick hlt;simp only at e0 hrc;have HRc:=hid hrc;obtain⟨an',ad',cn',cd',rfl,rfl,rfl,_⟩:=hrc.ex;have hal:=blA wr (.cells #[.int .i64 (u:Int),.bool (zc p).neg,.slice an' (zc p).num.length cn',.slice ad' (zc p).den.length cd'] 84);obtain⟨HT,HTn,HPj,HRj,HOwj⟩:=hd5 (zbl.alloc wr (.int .i64 (u:Int)) (.bool (zc p).neg) (.slice an' (zc p).num.length cn') (.slice ad' (zc p).den.length cd') 84) (zX.alloc wr #[.int .i64 (u:Int),.bool (zc p).neg,.slice an' (zc p).num.length cn',.slice ad' (zc p).den.length cd'] 84 Yc) (HPr.out.below hal) (HRc.out.below hal) (HOw.out.below zby hal);have HBj:=htr HB hal;have HOt:Hid ((Value.slice aO nL cO).ownBlock≠some wr.heap.size):=fun e=>by have:=(HOw.out.lt e).2;omega
   have HGe:Hid (W3.heap.size<=wr.heap.size):=HB.out.size;have HXx:=hid hx;have hpl:=HFb.out (u,p) (Zq hx);have HPl:=hid hpl;obtain⟨x0,x1,x2,x3,xf,xlt⟩:=HPr.out.fb;subst haF;clear hx hrc hal hpl HRc HOw HPr
   go_upto_region 7 with fail
   generalize wr.alloc (.cells #[.int .i64 (u:Int),.bool (zc p).neg,.slice an' (zc p).num.length cn',.slice ad' (zc p).den.length cd'] 84)=wj at *;clear x0 x1 x2 x3 xf xlt e0 e1 e2 e3;have hbj:W3.heap.size<=wj.heap.size:=HBj.out.size;have HRl:Hid (zD (zc p) 1048576):=HPl.out.mono Yd;obtain⟨t0,t1,t2,t3,tf,tlt⟩:=HT.out;cases dn
   case false=>
    by_cases huv:u=v
    ·have k1:((u:Int)==(v:Int))=true:=by rw[huv];simp
     have k2:decide ((u:Int)=(v:Int))=true:=by rw[huv];simp
     have HUV:=hid huv;have HI1:Hid (PlI f.ts v q (j+1) (L++zbc u (p+q)) true):=by rw[huv];exact HI.out.eq (by rw[<- huv];exact HXx.out)
     have HAd:Hid (Calls Tryz.prog 78 #[.agg #[.bool (zc p).neg,.slice an' (zc p).num.length cn',.slice ad' (zc p).den.length cd'],.agg #[.bool (zc q).neg,.slice qn (zc q).num.length qcn,.slice qd (zc q).den.length qcd]] wj (zcj wj (zc (p+q)))):=by
      have h:=zke HRj.out.val HPj.out.qv HPl.out HQl.out;exact T9
     have HSq:Hid (zD (zc (p+q)) 1048576):=HSm.out p (by rw[<- huv];exact Zq HXx.out);obtain⟨z0,z1,z2,zf,zlt⟩:=HPj.out.cb;clear huv
     go_wp2_with fail
     refine HAd.out.mono ?_
     rintro e w5 ⟨v5,rfl,hv5,hb5⟩;obtain⟨r1,r2,r3,rfl,hrc5⟩:=zbU.of hv5;have HRc5:=hid hrc5;obtain⟨bn',bd',dn',dd',rfl,rfl,rfl,_⟩:=hrc5.ex;obtain⟨HT5,HN5,HOw5⟩:=hd3 (HT.out.below hb5) (HTn.out.below hb5 HT.out.lt) (HOwj.out.below zby hb5);have HB5:=htr HBj hb5;clear hv5 hb5 hrc5 HAd t0 t1 t2 t3 tf tlt z0 z1 z2 zf zlt;obtain⟨t0,t1,t2,t3,tf,tlt⟩:=HT5.out;have n1:=HN5.out.setCell 1 (.bool (zc (p+q)).neg) Yc;have n2:=n1.setCell 2 (.slice bn' (zc (p+q)).num.length dn') Yc;obtain⟨HOwZ,HRcZ,HBz⟩:=hd3 (zS (zS (zS HOw5.out HN5.out HOt.out 1 (.bool (zc (p+q)).neg)) n1 HOt.out 2 (.slice bn' (zc (p+q)).num.length dn')) n2 HOt.out 3 (.slice bd' (zc (p+q)).den.length dd')) (((HRc5.out.setCell HN5.out 1 (.bool (zc (p+q)).neg)).setCell n1 2 (.slice bn' (zc (p+q)).num.length dn')).setCell n2 3 (.slice bd' (zc (p+q)).den.length dd')) (((HB5.out.setCell (p:=⟨wr.heap.size,1,none⟩) HGe.out (.bool (zc (p+q)).neg)).setCell (p:=⟨wr.heap.size,2,none⟩) HGe.out (.slice bn' (zc (p+q)).num.length dn')).setCell (p:=⟨wr.heap.size,3,none⟩) HGe.out (.slice bd' (zc (p+q)).den.length dd'));have HNz:=hid (zcE (v:=u) HOwZ.out HNL.out HBz.out.size HRcZ.out HSq.out Ya);clear n1 n2
     go_wp2_with fail
     refine HNz.out.mono ?_
     rintro e w9 ⟨a9,c9,rfl,ho9,hg9,_⟩;obtain⟨n9,hn9⟩:∃n9,n9=(L++zbc u (p+q)).length:=⟨_,rfl⟩
     rw[<- hn9]at ho9⊢;obtain⟨HN9,HO9,HB9⟩:=hd3 hn9 ho9 ((HBz.out).grown hg9 (HBz.out).size (fun k hk=>(HOwZ.out.lt hk).1));clear ho9 hg9 hn9 HNz;go_wp2;go_roundw
     case rel=>exact⟨j+1,L++zbc u (p+q),true,a9,c9,hlt,Ue,rfl,Yg,HI1.out,XT,HB9.out⟩
     case measure=>simp[intOf];omega
    ·have k1:((u:Int)==(v:Int))=false:=bn0 Ya;have k2:decide ((u:Int)=(v:Int))=false:=Zj Ya
     by_cases hgt:v<u
     ·have k3:decide ((v:Int)<(u:Int))=true:=Zk Ya;have k4:(v:Int)<(u:Int):=Ya;have k5:decide (v<u)=true:=Zk hgt;have HI1:=hid (HI.out.gt HCan.out HXx.out hgt);have HCn:Hid (Calls Tryz.prog 45 #[.agg #[.bool (zc q).neg,.slice qn (zc q).num.length qcn,.slice qd (zc q).den.length qcd]] wj (zcj wj (zc q))):=by
       have h:=zeJ HPj.out.qv (HQl.out.mono Yd);rw[za0,zH]at h;exact h
      obtain⟨z0,z1,z2,zf,zlt⟩:=HPj.out.cb;clear hgt huv
      go_wp2_with fail
      refine HCn.out.mono ?_
      rintro e w5 ⟨v5,rfl,hv5,hb5⟩;obtain⟨r1,r2,r3,rfl,hrc5⟩:=zbU.of hv5;obtain⟨HT5,HR5,HOw5⟩:=hd3 (HT.out.below hb5) (HRj.out.below hb5) (HOwj.out.below zby hb5);have HB5:=htr HBj hb5;have HN1:=hid (zcE (v:=v) HOw5.out HNL.out HB5.out.size hrc5 (HQl.out.mono Yd) Ya);obtain⟨bn',bd',dn',dd',rfl,rfl,rfl,_⟩:=hrc5.ex;clear hv5 hb5 hrc5 HCn t0 t1 t2 t3 tf tlt z0 z1 z2 zf zlt
      go_wp2_with fail
      refine HN1.out.mono ?_
      rintro e w6 ⟨a6,c6,rfl,ho6,hg6,hn6⟩;obtain⟨HOwZ,HBz,HT6,HR6⟩:=hd4 ho6 (HB5.out.grown hg6 HB5.out.size (fun k hk=>(HOw5.out.lt hk).1)) (HT5.out.grown hg6 HOt.out) (HR5.out.grown hg6 HOw5.out.al.noI);have hL6:(L++zbc v q).length<=500002:=X7;obtain⟨n6,hn6'⟩:∃n6,n6=(L++zbc v q).length:=⟨_,rfl⟩
      rw[<- hn6']at HOwZ hL6⊢;have HNz:=hid (zcE (v:=u) HOwZ.out hn6'.symm HBz.out.size HR6.out HRl.out Ya);obtain⟨t0,t1,t2,t3,tf,tlt⟩:=HT6.out;clear ho6 hg6 hn6 hn6' HN1
      go_wp2_with fail
      refine HNz.out.mono ?_
      rintro e w9 ⟨a9,c9,rfl,ho9,hg9,_⟩;obtain⟨n9,hn9⟩:∃n9,n9=((L++zbc v q)++zbc u p).length:=⟨_,rfl⟩
      rw[<- hn9]at ho9⊢;obtain⟨HN9,HO9,HB9⟩:=hd3 hn9 ho9 ((HBz.out).grown hg9 (HBz.out).size (fun k hk=>(HOwZ.out.lt hk).1));clear ho9 hg9 hn9 HNz;go_wp2;go_roundw
      case rel=>exact⟨j+1,(L++zbc v q)++zbc u p,true,a9,c9,hlt,Ue,rfl,Yg,HI1.out,XT,HB9.out⟩
      case measure=>simp[intOf];omega
     ·have k3:decide ((v:Int)<(u:Int))=false:=Zj Ya;have k4:¬ ((v:Int)<(u:Int)):=Ya;have k5:decide (v<u)=false:=Zj Ya;obtain⟨HI1,HNz⟩:=hd2 (HI.out.lt HCan.out HXx.out Ya) (zcE (v:=u) HOwj.out HNL.out HBj.out.size HRj.out HRl.out Ya);clear hgt huv
      go_wp2_with fail
      refine HNz.out.mono ?_
      rintro e w9 ⟨a9,c9,rfl,ho9,hg9,_⟩;obtain⟨n9,hn9⟩:∃n9,n9=(L++zbc u p).length:=⟨_,rfl⟩
      rw[<- hn9]at ho9⊢;obtain⟨HN9,HO9,HB9⟩:=hd3 hn9 ho9 ((HBj.out).grown hg9 (HBj.out).size (fun k hk=>(HOwj.out.lt hk).1));clear ho9 hg9 hn9 HNz;go_wp2;go_roundw
      case rel=>exact⟨j+1,L++zbc u p,false,a9,c9,hlt,Ue,rfl,Yg,HI1.out,XT,HB9.out⟩
      case measure=>simp[intOf];omega
   case true=>
    obtain⟨hvu,hI1⟩:=HI.out.dn HCan.out HXx.out;have k1:((u:Int)==(v:Int))=false:=bn0 Ya;have k2:decide ((u:Int)=(v:Int))=false:=Zj Ya;obtain⟨HI1,HNz⟩:=hd2 hI1 (zcE (v:=u) HOwj.out HNL.out HBj.out.size HRj.out HRl.out Ya);clear hvu hI1
    go_wp2_with fail
    refine HNz.out.mono ?_
    rintro e w9 ⟨a9,c9,rfl,ho9,hg9,_⟩;obtain⟨n9,hn9⟩:∃n9,n9=(L++zbc u p).length:=⟨_,rfl⟩
    rw[<- hn9]at ho9⊢;obtain⟨HN9,HO9,HB9⟩:=hd3 hn9 ho9 ((HBj.out).grown hg9 (HBj.out).size (fun k hk=>(HOwj.out.lt hk).1));clear ho9 hg9 hn9 HNz;go_wp2;go_roundw
    case rel=>exact⟨j+1,L++zbc u p,true,a9,c9,hlt,Ue,rfl,Yg,HI1.out,XT,HB9.out⟩
    case measure=>simp[intOf];omega
  ·obtain rfl:j=f.ts.length:=Ya;obtain⟨x0,x1,x2,x3,xf,xlt⟩:=HPr.out.fb;have hrow:∀(W':World) (a':Option Addr) (n' c':Nat) (L':List (Nat×Rat)),zrw W' W3.heap.size (.slice a' n' c') L'->Below W3.heap.size W3 W'->L'.length=n'->L'=zex f.ts v q->n'<=500002->
     za2 w RR (.returned (.agg #[.slice a' n' c',.bool (zc f.c).neg,.slice an (zc f.c).num.length cn,.slice ad (zc f.c).den.length cd])) ((((W'.setCell ⟨w.heap.size+2,0,none⟩ (.slice a' n' c')).setCell ⟨w.heap.size+2,1,none⟩ (.bool (zc f.c).neg)).setCell ⟨w.heap.size+2,2,none⟩ (.slice an (zc f.c).num.length cn)).setCell ⟨w.heap.size+2,3,none⟩ (.slice ad (zc f.c).den.length cd)):=by
    intro W' a' n' c' L' ho hb hl he hn;subst hl;have hP:=HP.out.below hb;obtain⟨a2,c2,e2,hcc⟩:=ho.form;cases e2;have hfm:zap W' (.agg #[.slice a' L'.length c',.bool (zc f.c).neg,.slice an (zc f.c).num.length cn,.slice ad (zc f.c).den.length cd]) RR:=by
     rw[HRR.out,<- he];exact⟨_,_,_,_,rfl,⟨a',c',rfl,hcc,ho.read Ya⟩,hP.kc⟩
    exact hfm.ret hP.ra hP.bl Ya
   have HRow:=hid hrow;clear hrow;cases dn
   case false=>
    have HL:Hid (L++zbc v q=zex f.ts v q):=by
     rcases HI.out with⟨_,h1,h2⟩|⟨h,_⟩
     ·rw[ZM (Za _)]at h1 h2;rw[h1];exact(zpi h2).symm
     ·cases h
    have HCn:Hid (Calls Tryz.prog 45 #[.agg #[.bool (zc q).neg,.slice qn (zc q).num.length qcn,.slice qd (zc q).den.length qcd]] wr (zcj wr (zc q))):=by
     have h:=zeJ HPr.out.qv (HQl.out.mono Yd);rw[za0,zH]at h;exact h
    obtain⟨z0,z1,z2,zf,zlt⟩:=HPr.out.cb
    go_wp2_with fail
    refine HCn.out.mono ?_
    rintro e w5 ⟨v5,rfl,hv5,hb5⟩;obtain⟨r1,r2,r3,rfl,hrc5⟩:=zbU.of hv5;have HOw5:=hid (HOw.out.below zby hb5);have HB5:=htr HB hb5;have HN1:=hid (zcE (v:=v) HOw5.out HNL.out HB5.out.size hrc5 (HQl.out.mono Yd) Ya);obtain⟨bn',bd',dn',dd',rfl,rfl,rfl,_⟩:=hrc5.ex;clear hv5 hb5 hrc5 HCn x0 x1 x2 x3 xf xlt z0 z1 z2 zf zlt
    go_wp2_with fail
    refine HN1.out.mono ?_
    rintro e w6 ⟨a6,c6,rfl,ho6,hg6,hn6⟩;have HB6:=hid (HB5.out.grown hg6 HB5.out.size (fun k hk=>(HOw5.out.lt hk).1));have hL6:(L++zbc v q).length<=500002:=X7;have hr:=HRow.out w6 a6 _ c6 _ ho6 HB6.out rfl HL.out hL6;obtain⟨n6,hn6'⟩:∃n6,n6=(L++zbc v q).length:=⟨_,rfl⟩
    rw[<- hn6']at hr⊢;obtain⟨HR6,HP6⟩:=hd2 hr (HP.out.below HB6.out);obtain⟨x0,x1,x2,x3,xf,xlt⟩:=HP6.out.fb;obtain⟨r0,r1,r2,r3,rf,rlt⟩:=HP6.out.rb;clear ho6 hg6 hn6 hn6' HN1 hr;go_wp2;exact Zp Xp rfl HR6.out
   case true=>
    have HL:Hid (L=zex f.ts v q):=by
     rcases HI.out with⟨h,_⟩|⟨_,h1,_⟩
     ·cases h
     ·rw[ZM (Za _)]at h1;exact h1
    have HR6:=hid (HRow.out wr aO nL cO L HOw.out HB.out HNL.out HL.out Ya);obtain⟨r0,r1,r2,r3,rf,rlt⟩:=HPr.out.rb;go_wp2;exact Zp Xp rfl HR6.out
structure ScS (W3 wr:World) (tb base:Nat) (s:Value) (L:List (Nat×Rat)) (c1 c2 c3:Value) (k:Rat):Prop where
 bx:zbl wr tb s c1 c2 c3
 no:zX wr tb
 own:zrw wr base s L
 kc:zbU wr c1 c2 c3 k
 bl:Below W3.heap.size W3 wr
 lt:tb<base
 ge:W3.heap.size<=tb
theorem ScS.below{W3 wr W:World}{tb base:Nat}{s:Value}{L:List (Nat×Rat)}{c1 c2 c3:Value}{k:Rat}(h:ScS W3 wr tb base s L c1 c2 c3 k)(hb:Below wr.heap.size wr W):ScS W3 W tb base s L c1 c2 c3 k:=
 ⟨h.bx.below hb,h.no.below hb h.bx.lt,h.own.below zby hb,h.kc.below hb,h.bl.trans (hb.mono h.bl.size),h.lt,h.ge⟩
theorem ScS.app{W3 wr W:World}{tb base:Nat}{s s':Value}{L L':List (Nat×Rat)}{c1 c2 c3:Value}{k:Rat}(h:ScS W3 wr tb base s L c1 c2 c3 k)(ho:zrw W base s' L')(hg:wr.grownBy W s.ownBlock)(hs:∀x,s'≠.int .u32 x):
  ScS W3 (W.setCell ⟨tb,0,none⟩ s') tb base s' L' c1 c2 c3 k:=by
 have hlt:=h.lt;have hge:=h.ge;have hf1:s.ownBlock≠some tb:=fun e=>by have:=(h.own.lt e).1;omega
 have hf2:s'.ownBlock≠some tb:=fun e=>by have:=(ho.lt e).1;omega
 have hn:=h.no.grown h.bx.lt hg hf1;have hb:Below W3.heap.size W3 W:=h.bl.grown hg h.bl.size (fun q hq=>by have:=(h.own.lt hq).1;omega);exact⟨(h.bx.grown hg hf1).set0 s',hn.setCell _ _ hs,zS ho hn hf2 _ _,(h.kc.grown hg h.own.al.noI).setCell hn _ _,hb.setCell (p:=⟨tb,0,none⟩) hge _,hlt,hge⟩
theorem zrK{w:World}{vf vq:Value}{f:zl}{q:Rat}(hf:zap w vf f)(hq:RatV w vq (zc q))(hcan:f.Can)(hfb:∀t∈f.ts,zD (zc t.2) 1048575)(hcb:zD (zc f.c) 1048575)(hql:zD (zc q) 1048575)(hs:∀t∈f.ts,zD (zc (t.2*q)) 1048576)(few:f.ts.length<=500000):
  Calls Tryz.prog 49 #[vf,vq] w (za2 w (scA q f)):=by
 obtain⟨a,c,an,ad,cn,cd,rfl,hc,ht,l1,l2,u1,u2⟩:=hf.parts;obtain⟨qn,qd,qcn,qcd,rfl,m1,m2,v1,v2⟩:=hq.ex;obtain⟨HFb,HCb,HQl,HSm⟩:=hd4 hfb hcb hql hs;obtain⟨RR,hRR⟩:∃RR:zl,RR=scA q f:=⟨_,rfl⟩
 have HRR:Hid (RR=⟨zmB q f.ts,f.c*q⟩):=by
  unfold Hid;rw[hRR];show(⟨zfm q [] f.ts,0+q*f.c⟩:zl)=_
  rw[<- zo1 hcan,Za4,Rat.mul_comm]
 rw[<- hRR];have b1:=blA w (.cells #[.slice a f.ts.length c,.bool (zc f.c).neg,.slice an (zc f.c).num.length cn,.slice ad (zc f.c).den.length cd] 53);have s1:(w.alloc (.cells #[.slice a f.ts.length c,.bool (zc f.c).neg,.slice an (zc f.c).num.length cn,.slice ad (zc f.c).den.length cd] 53)).heap.size=w.heap.size+1:=Yc;have x1:=zbl.alloc w (.slice a f.ts.length c) (.bool (zc f.c).neg) (.slice an (zc f.c).num.length cn) (.slice ad (zc f.c).den.length cd) 53;obtain⟨W1,hW1⟩:∃W1,W1=w.alloc (.cells #[.slice a f.ts.length c,.bool (zc f.c).neg,.slice an (zc f.c).num.length cn,.slice ad (zc f.c).den.length cd] 53):=⟨_,rfl⟩
 rw[<- hW1]at b1 s1 x1;have b2:=blA W1 (.cells #[.bool (zc q).neg,.slice qn (zc q).num.length qcn,.slice qd (zc q).den.length qcd] 51);have s2:(W1.alloc (.cells #[.bool (zc q).neg,.slice qn (zc q).num.length qcn,.slice qd (zc q).den.length qcd] 51)).heap.size=w.heap.size+2:=by simp[s1]
 have x2:=za4.alloc W1 (.bool (zc q).neg) (.slice qn (zc q).num.length qcn) (.slice qd (zc q).den.length qcd) 51;rw[s1]at x2;obtain⟨W2,hW2⟩:∃W2,W2=W1.alloc (.cells #[.bool (zc q).neg,.slice qn (zc q).num.length qcn,.slice qd (zc q).den.length qcd] 51):=⟨_,rfl⟩
 rw[<- hW2]at b2 s2 x2;have b3:=blA W2 (.cells #[.slice none 0 0,.bool false,.slice none 0 0,.slice none 0 0] 53);have x3:=zfo.alloc (za6 W2) 53;rw[s2]at x3;obtain⟨W3,hW3⟩:∃W3,W3=W2.alloc (.cells #[.slice none 0 0,.bool false,.slice none 0 0,.slice none 0 0] 53):=⟨_,rfl⟩
 rw[<- hW3]at b3 x3;have b23:=b2.trans (b3.mono b2.size);have b13:=b1.trans (b23.mono b1.size);have HP:Hid (PlB w W3 f.ts f.c 0 q a an ad f.ts.length c (zc f.c).num.length cn (zc f.c).den.length cd (zc f.c).neg (zc q).neg qn qd (zc q).num.length qcn (zc q).den.length qcd):=
  ⟨x1.below b23,x2.below b3,x3.bx,x3.al,ht.below zby b13,zbU.below ⟨an,ad,cn,cd,rfl,rfl,rfl,l1,l2,u1,u2⟩ b13,hq.below b13,b13⟩
 have HW:Hid (W3=((w.alloc (.cells #[.slice a f.ts.length c,.bool (zc f.c).neg,.slice an (zc f.c).num.length cn,.slice ad (zc f.c).den.length cd] 53)).alloc (.cells #[.bool (zc q).neg,.slice qn (zc q).num.length qcn,.slice qd (zc q).den.length qcd] 51)).alloc (.cells #[.slice none 0 0,.bool false,.slice none 0 0,.slice none 0 0] 53)):=by unfold Hid;rw[hW3,hW2,hW1]
 clear x1 x2 x3 b1 b2 b3 s1 s2 b23 b13 hW1 hW2 hW3 hf hq ht u1 u2 v1 v2 hfb hql hs hcan hRR l1 l2 m1 m2 hcb
 go_enter Tryz.func49,Tryz.ntmps49
 go_upto_region 1 with fail
 rw[<- HW.out];clear HW;obtain⟨x0,x1,x2,x3,xf,xlt⟩:=HP.out.fb;obtain⟨z0,z1,z2,zf,zlt⟩:=HP.out.cb;have HM:Hid (Calls Tryz.prog 80 #[.agg #[.bool (zc f.c).neg,.slice an (zc f.c).num.length cn,.slice ad (zc f.c).den.length cd],.agg #[.bool (zc q).neg,.slice qn (zc q).num.length qcn,.slice qd (zc q).den.length qcd]] W3 (zcj W3 (zc (f.c*q)))):=by
  have h:=zpY HP.out.kc.val HP.out.qv HCb.out HQl.out;exact T9
 go_wp2_with fail
 refine HM.out.mono ?_
 rintro e w5 ⟨v5,rfl,hv5,hb5⟩;obtain⟨r1,r2,r3,rfl,hrc5⟩:=zbU.of hv5;have HRc5:=hid hrc5;obtain⟨bn',bd',dn',dd',rfl,rfl,rfl,_⟩:=hrc5.ex;have hal:=blA w5 (.cells #[.slice none 0 0,.bool (zc (f.c*q)).neg,.slice bn' (zc (f.c*q)).num.length dn',.slice bd' (zc (f.c*q)).den.length dd'] 53);have hT:=zbl.alloc w5 (.slice none 0 0) (.bool (zc (f.c*q)).neg) (.slice bn' (zc (f.c*q)).num.length dn') (.slice bd' (zc (f.c*q)).den.length dd') 53;have hTn:=zX.alloc w5 #[.slice none 0 0,.bool (zc (f.c*q)).neg,.slice bn' (zc (f.c*q)).num.length dn',.slice bd' (zc (f.c*q)).den.length dd'] 53 Yc;have HSc:Hid (ScS W3 (w5.alloc (.cells #[.slice none 0 0,.bool (zc (f.c*q)).neg,.slice bn' (zc (f.c*q)).num.length dn',.slice bd' (zc (f.c*q)).den.length dd'] 53)) w5.heap.size (w5.heap.size+1) (.slice none 0 0) [] (.bool (zc (f.c*q)).neg) (.slice bn' (zc (f.c*q)).num.length dn') (.slice bd' (zc (f.c*q)).den.length dd') (f.c*q)):=
  ⟨hT,hTn,zdT.nil _ _,HRc5.out.below hal,hb5.trans (hal.mono hb5.size),Zaa _,hb5.size⟩
 clear hv5 hb5 hrc5 HM HRc5 hal hT hTn x0 x1 x2 x3 xf xlt z0 z1 z2 zf zlt
 go_upto_region 2 with fail
 generalize w5.alloc (.cells #[.slice none 0 0,.bool (zc (f.c*q)).neg,.slice bn' (zc (f.c*q)).num.length dn',.slice bd' (zc (f.c*q)).den.length dd'] 53)=W6 at *;obtain⟨tb,htb⟩:∃tb,tb=w5.heap.size:=⟨_,rfl⟩
 rw[<- htb]at HSc⊢;clear htb;go_wp2
 go_loopw [6] (fun i wr=>∃(j:Nat) (L:List (Nat×Rat)) (aO:Option Addr) (nO cO:Nat),j<=f.ts.length/\i=.int .i64 (j:Int)/\Hid (L=zmB q (f.ts.take j))/\Hid (L.length=nO)/\nO<=j/\Hid (ScS W3 wr tb (tb+1) (.slice aO nO cO) L (.bool (zc (f.c*q)).neg) (.slice bn' (zc (f.c*q)).num.length dn') (.slice bd' (zc (f.c*q)).den.length dd') (f.c*q))) (fun i _=>f.ts.length-(intOf i).toNat)
 case atStart=>exact⟨0,[],none,0,0,Zs _,rfl,rfl,rfl,Za _,HSc.out⟩
 case round=>
  obtain⟨j,L,aO,nO,cO,hj,rfl,HL,HN,hnj,HS⟩:=hrel;have HPr:=hid (HP.out.below HS.out.bl);obtain⟨x0,x1,x2,x3,xf,xlt⟩:=HPr.out.fb
  by_cases hlt:j<f.ts.length
  ·obtain⟨bF,oF,⟨u,p⟩,p0,p1,p2,p3,haF,hbF,hx,e0,e1,e2,e3,rfl,hrc⟩:=HPr.out.tm.pick hlt;simp only at e0 hrc;have HRc:=hid hrc;obtain⟨an',ad',cn',cd',rfl,rfl,rfl,_⟩:=hrc.ex;have HStep:Hid (zmB q (f.ts.take (j+1))=L++zbc u (p*q)):=by
    unfold Hid;rw[zaG hx,zjh,HL.out]
   obtain⟨HPl,HPq⟩:=hd2 (HFb.out (u,p) (Zq hx)) (HSm.out (u,p) (Zq hx));have HMu:Hid (∀X,Below wr.heap.size wr X->Calls Tryz.prog 80 #[.agg #[.bool (zc p).neg,.slice an' (zc p).num.length cn',.slice ad' (zc p).den.length cd'],.agg #[.bool (zc q).neg,.slice qn (zc q).num.length qcn,.slice qd (zc q).den.length qcd]] X (zcj X (zc (p*q)))):=fun X hb=>by
    have h:=zpY (HRc.out.below hb).val ((HPr.out.below hb).qv) HPl.out HQl.out;exact T9
   have HCe:Hid (∀X,Below wr.heap.size wr X->X.cell? ⟨w.heap.size,0,none⟩=some (.slice (some ⟨bF,oF,none⟩) f.ts.length c)/\w.heap.size<X.heap.size/\X.cell? ⟨w.heap.size+1,0,none⟩=some (.bool (zc q).neg)/\X.cell? ⟨w.heap.size+1,1,none⟩=some (.slice qn (zc q).num.length qcn)/\X.cell? ⟨w.heap.size+1,2,none⟩=some (.slice qd (zc q).den.length qcd)/\w.heap.size+1<X.heap.size/\
     X.cell? ⟨bF,oF+j*4,none⟩=some (.int .i64 (u:Int))/\X.cell? ⟨bF,oF+j*4+1,none⟩=some (.bool (zc p).neg)/\X.cell? ⟨bF,oF+j*4+2,none⟩=some (.slice an' (zc p).num.length cn')/\X.cell? ⟨bF,oF+j*4+3,none⟩=some (.slice ad' (zc p).den.length cd')/\bF<X.heap.size/\
     X.cell? ⟨tb,0,none⟩=some (.slice aO nO cO)/\tb<X.heap.size):=fun X hb=>by
    have hP:=HPr.out.below hb;have hS:=HS.out.below hb
    refine⟨by rw[<- haF];exact hP.fb.c0,hP.fb.lt,hP.cb.c0,hP.cb.c1,hP.cb.c2,hP.cb.lt,(hb.cell hbF).trans e0,(hb.cell hbF).trans e1,(hb.cell hbF).trans e2,(hb.cell hbF).trans e3,Zb hbF hb.size,hS.bx.c0,hS.bx.lt⟩
   rw[haF];rw[haF]at x0;clear hx hrc e0 e1 e2 e3 HPl
   go_upto_region 5 with fail
   clear x0 x1 x2 x3 xf xlt
   refine zj 17 Yb Yb Yb Yb Yd (zbZ wr.heap.size wr) (fun w w'=>Below w.heap.size w w') (GQ [.val (.pointer (some ⟨tb,0,none⟩)),.val (.slice aO nO cO),.val (.pointer (some ⟨w.heap.size,0,none⟩)),.val (.slice (some ⟨bF,oF,none⟩) f.ts.length c),.val (.int .i64 (j:Int)),.val (.pointer (some ⟨bF,oF+j*4,none⟩)),.val (.pointer (some ⟨bF,oF+j*4,none⟩)),.val (.int .i64 (u:Int)),.val (.pointer (some ⟨w.heap.size,0,none⟩)),.val (.slice (some ⟨bF,oF,none⟩) f.ts.length c),.val (.int .i64 (j:Int)),.val (.pointer (some ⟨bF,oF+j*4,none⟩)),.val (.pointer (some ⟨bF,oF+j*4+1,none⟩)),.val (.agg #[.bool (zc p).neg,.slice an' (zc p).num.length cn',.slice ad' (zc p).den.length cd']),.val (.agg #[.bool (zc q).neg,.slice qn (zc q).num.length qcn,.slice qd (zc q).den.length qcd]),.rat (p*q),.trm u (p*q)]) (fun i v w w' h hb=>zaV h hb) (zbZ.start (Za _)) ?_ ?_
   ·intro ops;simp only[Zo,Zw,zbR]
    refine⟨?v0,?v1,?v2,?v3,?v4,?v5,?v6,?v7,?v8,?v9,?v10,?v11,?v12,?v13,?v14,?_,?_,trivial⟩
    all_goals (intro y' X hR hL;have hB:=hR.base;obtain⟨x0,xlt,k0,k1,k2,klt,e0,e1,e2,e3,elt,t0,tlt⟩:=HCe.out X hR.be;simp only[zdt,Region.binds,ZB,Zn,Zx,GQ,Zf,Zc]at hL;simp[ze,Act.put])
    case v0|v1|v2|v3|v4|v5|v6|v7|v8|v9|v10|v11|v12|v13|v14=>
     exact OB
    ·try simp only[hL]
     clear hL;have HR:=hid hR;clear hR;have HCt:=hid (HMu.out X HR.out.be);exact Up
    ·generalize y' 7=y7 at hL⊢;generalize y' 15=y15 at hL⊢;obtain⟨rfl,H15,_⟩:=hL;obtain⟨K15,HR⟩:=hd2 H15 hR;clear hR H15;obtain⟨an',ad',cn',cd',rfl,l1,l2,u1,u2⟩:=K15.out.ex;have HRC:=hid (show zbU X _ _ _ _ from⟨an',ad',cn',cd',rfl,rfl,rfl,l1,l2,u1,u2⟩);clear u1 u2 K15;exact Il
   ·intro ops y' X hR hL;have hB:=hR.base;have J1:=hL.1.1.1.1.1.1.1.1.1.1.1.1.1.1.1.2;have J16:=hL.2;simp only[GQ,Zf,Zc]at J1 J16;obtain⟨x0,xlt,k0,k1,k2,klt,e0,e1,e2,e3,elt,t0,tlt⟩:=HCe.out X hR.be;clear hL;simp only[Zo,Zw,ZG,ZO];simp[ze,Act.put];generalize y' 1=y1 at J1⊢;obtain rfl:=J1;generalize y' 16=y16 at J16⊢;have HR:=hid hR;clear hR;obtain⟨r1,r2,r3,rfl,hrc⟩:=J16;have HSX:=hid (HS.out.below HR.out.be);have HNz:=hid (zcE (v:=u) HSX.out.own HN.out (Zi HSX.out.bx.lt (Za _)) hrc HPq.out Ya);obtain⟨an2,ad2,cn2,cd2,rfl,rfl,rfl,_⟩:=hrc.ex;clear hrc x0 xlt k0 k1 k2 klt e0 e1 e2 e3 elt t0 tlt
    go_wp2_with fail
    refine HNz.out.mono ?_
    rintro e w9 ⟨a9,c9,rfl,ho9,hg9,_⟩;obtain⟨n9,hn9⟩:∃n9,n9=(L++zbc u (p*q)).length:=⟨_,rfl⟩
    rw[<- hn9]at ho9⊢;have hn9b:n9<=j+1:=by have h:=zhd u (p*q);have h2:=HN.out;rw[hn9,ZE];omega
    obtain⟨HN9,HS9⟩:=hd2 hn9 (HSX.out.app ho9 hg9 Yc);have hb9:=(HSX.out.bx.grown hg9 (fun e=>by have:=(HSX.out.own.lt e).1;omega))
    obtain⟨t0,t1,t2,t3,tf,tlt⟩:=hb9;clear ho9 hg9 hn9 HNz;go_wp2;go_roundw
    case rel=>exact⟨j+1,L++zbc u (p*q),a9,n9,c9,hlt,Yg,HStep.out.symm,HN9.out.symm,hn9b,HS9.out⟩
    case measure=>simp[intOf];omega
  ·obtain rfl:j=f.ts.length:=Ya;obtain⟨t0,t1,t2,t3,tf,tlt⟩:=HS.out.bx;obtain⟨r0,r1,r2,r3,rf,rlt⟩:=HPr.out.rb;have hcc:nO<=cO:=by
    obtain⟨a2,c2,e2,hcc⟩:=HS.out.own.form;simp only[Value.slice.injEq]at e2;obtain⟨_,e3,e4⟩:=e2;have:=HN.out;omega
   have hfm:zap wr (.agg #[.slice aO nO cO,.bool (zc (f.c*q)).neg,.slice bn' (zc (f.c*q)).num.length dn',.slice bd' (zc (f.c*q)).den.length dd']) RR:=by
    rw[HRR.out];have hL:=HL.out;rw[ZM (Za _)]at hL;have hN:=HN.out;subst hL;exact⟨_,_,_,_,rfl,⟨aO,cO,by rw[hN],by rw[hN];exact hcc,HS.out.own.read (by rw[hN];omega)⟩,HS.out.kc⟩
   have HO:=hid (hfm.ret HPr.out.ra HPr.out.bl Ya);clear hfm hcc;go_wp2;exact Zp (by simp[results,Tryz.results49,go_sem,r0,r1,r2,r3,rlt,Zbc rlt]) rfl HO.out
theorem zkW:∀{l:List (Nat×Rat)} {lo:Nat} (j:Nat),zbB l lo->zbB (l.take j) lo
 | [],_,j,_=>by rw[List.take_nil];trivial
 | _::_,_,0,_=>trivial
 | (u,p)::r,lo,j+1,⟨h1,h2,h3⟩=>⟨h1,h2,zkW j h3⟩
theorem zjF:∀{l:List (Nat×Rat)} {lo:Nat} (j v:Nat),zbB l lo->zM (l.take j) v=0∨zM (l.take j) v=zM l v
 | [],_,j,v,_=>by rw[List.take_nil];exact .inl rfl
 | _::_,_,0,v,_=>.inl rfl
 | (u,p)::r,lo,j+1,v,⟨_,_,h3⟩=>by
  show(if u=v then p else zM (r.take j) v)=0∨(if u=v then p else zM (r.take j) v)=(if u=v then p else zM r v)
  split
  ·exact .inr rfl
  ·exact zjF j v h3
theorem zgS:∀(f g:List (Nat×Rat)),(zdb f g).length<=f.length+g.length
 | f,[]=>by simp[zdb]
 | f,(v,q)::r=>by
  show(zdb (zex f v q) r).length<=_
  have h1:=zgS (zex f v q) r;have h2:=ziJ f v q;rw[ZH];omega
theorem znM{D B C N j:Nat}{f g:zl}(hf:BdF D B N f)(hg:BdF D C N g)(v:Nat):Bd D (B+C) (zM (zdb f.ts (g.ts.take j)) v):=by
 rw[zfF hf.can (zkW j hg.can) v]
 refine(hf.t v).add ?_
 rcases zjF j v hg.can with e|e
 ·rw[e];exact Bd.zero hf.pos
 ·rw[e];exact hg.t v
theorem zqe{D B C N j:Nat}{f g:zl}(hf:BdF D B N f)(hg:BdF D C N g){t:Nat×Rat}(ht:t∈zdb f.ts (g.ts.take j)):Bd D (B+C) t.2:=by
 have h:=znM (j:=j) hf hg t.1
 rwa [(zeZ (zdk hf.can) ht).2]at h
theorem zm1{D B C N j u:Nat}{f g:zl}{p p':Rat}(hf:BdF D B N f)(hg:BdF D C N g)(hx:g.ts[j]? =some (u,p))(ht:(u,p')∈zdb f.ts (g.ts.take j)):Bd D (B+C) (p'+p):=by
 have h:=znM (j:=j+1) hf hg u;rw[zaG hx,zfD,zg5 u p (zdk hf.can),Zm rfl,(zeZ (zdk hf.can) ht).2]at h;exact h
theorem Pay.b5{D B:Nat}{q:Rat}(h:Pay D B)(hq:Bd D B q):zD (zc q) 524285:=hq.le h
inductive Sx where
 | val (x:Value)
 | rat (q:Rat)
 | num (s:Value) (q:Rat)
 | new4 (B:Nat)
def GX(L:List Sx)(i:Nat)(v:Value)(w:World):Prop:=
 match L[i]? with
 | some (.val x)=>v=x
 | some (.rat q)=>RatV w v (zc q)
 | some (.num s q)=>∃p1 p2 p3,v=.agg #[s,p1,p2,p3]/\zbU w p1 p2 p3 q
 | some (.new4 B)=>∃b,v=.pointer (some ⟨b,0,none⟩)/\B<=b/\zbl w b (.slice none 0 0) (.bool false) (.slice none 0 0) (.slice none 0 0)/\zbC zco w b
 | none=>True
theorem zpR{L:List Sx}{i:Nat}{v:Value}{w w':World}(h:GX L i v w)(hb:Below w.heap.size w w'):GX L i v w':=by
 unfold GX at h⊢
 split
 ·exact IN
 ·rename_i x hx;rw[hx]at h;exact RatV.below h hb
 ·rename_i s x hx;rw[hx]at h;obtain⟨p1,p2,p3,e,k⟩:=h;exact⟨p1,p2,p3,e,k.below hb⟩
 ·exact It
 ·trivial
structure CpJ (W1:World) (t0 t1 t2 c1 c2 c3:Value) (n:Nat) (L:List (Nat×Rat)) (d:Nat->Bool) (g:Nat->Value) (W:World):Prop where
 be:Below W1.heap.size W1 W
 v0:d 0=true->d 3=false->∃b,g 0=.slice (some ⟨b,0,none⟩) 0 0/\W1.heap.size<=b/\W.heap[b]? =some (.cells #[] 84 (0,0))
 v1:d 1=true->g 1=t0
 v2:d 2=true->g 2=t1
 v3:d 3=true->∃b c,g 3=.slice b n c/\n<=c/\zag W b L
 v4:d 4=true->g 4=t2
 v5:d 5=true->g 5=.agg #[c1,c2,c3]
 c6:d 6=true->d 3=true
 v6:d 6=true->∃b c,g 6=.agg #[.slice b n c,c1,c2,c3]/\n<=c/\zag W b L
theorem zpJ{α:Type}{P:World->Value->Value->Value->Value->α->Prop}{T:TypeId}{w:World}{base:Nat}{a:Option Addr}{n c:Nat}{L:List α}{xs:List Value}(ho:w.ownsRow base T 4 (.slice a n c) n xs)(hn:L.length=n)(he:∀(j:Nat) (x:α),L[j]? =some x->∃p0 p1 p2 p3,xs[j*4]? =some p0/\xs[j*4+1]? =some p1/\xs[j*4+2]? =some p2/\xs[j*4+3]? =some p3/\P w p0 p1 p2 p3 x)(hl:L.length<=9223372036854775807):zf5 P w a L:=Oy
section
variable {W1:World} {t0 t1 t2 c1 c2 c3:Value} {n:Nat} {L:List (Nat×Rat)} {d:Nat->Bool} {g:Nat->Value} {W W':World}
theorem zjQ(d:Nat->Bool)(i:Nat):zdj d i i=true:=by unfold zdj;rw[Zm rfl]
theorem zgi(g:Nat->Value)(i:Nat)(v:Value):upd g i v i=v:=by unfold upd;rw[Zm rfl]
theorem zfg{g:Nat->Value}{i j:Nat}{v:Value}(h:j≠i):upd g i v j=g j:=by unfold upd;rw[Zg h]
theorem CpJ.start(g:Nat->Value):CpJ W1 t0 t1 t2 c1 c2 c3 n L (fun _=>false) g W1.drew:=
 ⟨(Ze _ _).drew,(fun h=>YP),(fun h=>YP),(fun h=>YP),(fun h=>YP),(fun h=>YP),(fun h=>YP),(fun h=>YP),(fun h=>YP)⟩
theorem CpJ.s0(h:CpJ W1 t0 t1 t2 c1 c2 c3 n L d g W):CpJ W1 t0 t1 t2 c1 c2 c3 n L (zdj d 0) (upd g 0 (.slice (some ⟨W.heap.size,0,none⟩) 0 0)) (W.alloc (.cells #[] 84)):=by
 have hal:=blA W (.cells #[] 84)
 refine⟨h.be.trans (hal.mono h.be.size),fun _ _=>⟨_,zgi _ _ _,h.be.size,Za8 W _⟩,fun k=>?_,fun k=>?_,fun k=>?_,fun k=>?_,fun k=>?_,fun k=>?_,fun k=>?_⟩
 ·exact ID
 ·exact IE
 ·rw[zaJ Yd]at k;rw[zfg Yd];obtain⟨b,c,e,l,t⟩:=h.v3 k;exact⟨b,c,e,l,t.below zby hal⟩
 ·exact IF
 ·exact IG
 ·rw[zaJ Yd]at k⊢;exact h.c6 k
 ·rw[zaJ Yd]at k;rw[zfg Yd];obtain⟨b,c,e,l,t⟩:=h.v6 k;exact⟨b,c,e,l,t.below zby hal⟩
theorem CpJ.sv(h:CpJ W1 t0 t1 t2 c1 c2 c3 n L d g W){i:Nat}{v:Value}(hi:(i=1/\v=t0)∨(i=2/\v=t1)∨(i=4/\v=t2)∨(i=5/\v=.agg #[c1,c2,c3])):CpJ W1 t0 t1 t2 c1 c2 c3 n L (zdj d i) (upd g i v) W:=by
 have key:∀j,j≠i->zdj d i j=d j/\upd g i v j=g j:=fun j hj=>⟨zaJ hj,zfg hj⟩
 have h0:=key 0 Ya;have h3:=key 3 Ya;have h6:=key 6 Ya
 refine⟨h.be,fun k k2=>?_,fun k=>?_,fun k=>?_,fun k=>?_,fun k=>?_,fun k=>?_,fun k=>?_,fun k=>?_⟩
 ·rw[h0.1]at k;rw[h3.1]at k2;rw[h0.2];exact h.v0 k k2
 ·by_cases e:1=i
  ·exact Tr
  ·rw[(key 1 e).1]at k;rw[(key 1 e).2];exact h.v1 k
 ·by_cases e:2=i
  ·exact Tr
  ·rw[(key 2 e).1]at k;rw[(key 2 e).2];exact h.v2 k
 ·rw[h3.1]at k;rw[h3.2];exact h.v3 k
 ·by_cases e:4=i
  ·exact Tr
  ·rw[(key 4 e).1]at k;rw[(key 4 e).2];exact h.v4 k
 ·by_cases e:5=i
  ·exact Tr
  ·rw[(key 5 e).1]at k;rw[(key 5 e).2];exact h.v5 k
 ·rw[h6.1]at k;rw[h3.1];exact h.c6 k
 ·rw[h6.1]at k;rw[h6.2];exact h.v6 k
theorem CpJ.s3(h:CpJ W1 t0 t1 t2 c1 c2 c3 n L d g W)(hd:d 3=false)(hb:Below W1.heap.size W1 W'){b:Option Addr}{c:Nat}(hc:n<=c)(ht:zag W' b L):CpJ W1 t0 t1 t2 c1 c2 c3 n L (zdj d 3) (upd g 3 (.slice b n c)) W':=by
 refine⟨hb,fun _ k2=>?_,fun k=>?_,fun k=>?_,fun _=>⟨b,c,zgi _ _ _,hc,ht⟩,fun k=>?_,fun k=>?_,fun _=>zjQ _ _,fun k=>?_⟩
 ·rw[zjQ]at k2;cases k2
 ·exact ID
 ·exact IE
 ·exact IF
 ·exact IG
 ·rw[zaJ Yd]at k;have:=h.c6 k;rw[hd]at this;cases this
theorem CpJ.s6(h:CpJ W1 t0 t1 t2 c1 c2 c3 n L d g W)(h3:d 3=true){b:Option Addr}{c:Nat}(hc:n<=c)(ht:zag W b L):CpJ W1 t0 t1 t2 c1 c2 c3 n L (zdj d 6) (upd g 6 (.agg #[.slice b n c,c1,c2,c3])) W:=by
 refine⟨h.be,fun k k2=>?_,fun k=>?_,fun k=>?_,fun k=>?_,fun k=>?_,fun k=>?_,fun _=>by rw[zaJ Yd];exact h3,fun _=>⟨b,c,zgi _ _ _,hc,ht⟩⟩
 ·rw[zaJ Yd]at k k2;rw[zfg Yd];exact h.v0 k k2
 ·exact ID
 ·exact IE
 ·rw[zaJ Yd]at k;rw[zfg Yd];exact h.v3 k
 ·exact IF
 ·exact IG
end
theorem zsw{W1 W w5:World}{t0 t1 t2 c1 c2 c3 v':Value}{n:Nat}{L:List (Nat×Rat)}{d:Nat->Bool}{g:Nat->Value}{news:List Value}{v:Value}(h:CpJ W1 t0 t1 t2 c1 c2 c3 n L d g W)(hd:d 3=false)(hn:L.length=n)(he:∀(j:Nat) (x:Nat×Rat),L[j]? =some x->∃p0 p1 p2 p3,news[j*4]? =some p0/\news[j*4+1]? =some p1/\news[j*4+2]? =some p2/\news[j*4+3]? =some p3/\zes W1 p0 p1 p2 p3 x)(hl:n<=500000)
 (hv:W.ownsRow W1.heap.size 84 4 v 0 [])(hown:w5.ownsRow W1.heap.size 84 4 v' (0+n) ([]++news))(hg:W.grownBy w5 v.ownBlock):CpJ W1 t0 t1 t2 c1 c2 c3 n L (zdj d 3) (upd g 3 v') w5:=by
 rw[ZR,ZaV]at hown;obtain⟨b,c,rfl,hc⟩:=zdZ hown;have hb:Below W1.heap.size W1 w5:=h.be.grown hg h.be.size (fun k hk=>(hv.lt k hk).1)
 refine h.s3 hd hb hc (zpJ hown hn (fun j x hx=>?_) Ya)
 obtain⟨p0,p1,p2,p3,e0,e1,e2,e3,e4⟩:=he j x hx;exact⟨p0,p1,p2,p3,e0,e1,e2,e3,zby.below e4 hb⟩
theorem ztN{w:World}{vf vg:Value}{f g:zl}{D B C N:Nat}(hf:zap w vf f)(hg:zap w vg g)(bf:BdF D B N f)(bg:BdF D C N g)(hP:Pay D (B+C))(hN:N<=250000):
  Calls Tryz.prog 48 #[vf,vg] w (za2 w (zbi 1 f g)):=by
 obtain⟨PP,hPE,hPP⟩:∃PP:Prop,PP=Pay D (B+C)/\PP:=⟨_,rfl,hP⟩
 obtain⟨HPE,HPP⟩:=hd2 hPE hPP;obtain⟨aF,cF,fan,fad,fcn,fcd,rfl,hcF,htF,l1,l2,u1,u2⟩:=hf.parts;obtain⟨aG,cG,gan,gad,gcn,gcd,rfl,hcG,htG,m1,m2,v1,v2⟩:=hg.parts;obtain⟨HBf,HBg⟩:=hd2 bf bg;have hlF:=bf.few;have hlG:=bg.few;obtain⟨RR,hRR⟩:∃RR:zl,RR=zbi 1 f g:=⟨_,rfl⟩
 have HRR:Hid (RR=⟨zdb f.ts g.ts,f.c+g.c⟩):=by
  unfold Hid;rw[hRR];show(⟨zfm 1 f.ts g.ts,f.c+1*g.c⟩:zl)=_
  rw[zoE bf.can bg.can,Zbn]
 rw[<- hRR];have HT:=hid (zpG.mk' w (.slice aF f.ts.length cF) (.bool (zc f.c).neg) (.slice fan (zc f.c).num.length fcn) (.slice fad (zc f.c).den.length fcd) (.slice aG g.ts.length cG) (.bool (zc g.c).neg) (.slice gan (zc g.c).num.length gcn) (.slice gad (zc g.c).den.length gcd) 53);have HF0:Hid (zag w aF f.ts/\zbU w (.bool (zc f.c).neg) (.slice fan (zc f.c).num.length fcn) (.slice fad (zc f.c).den.length fcd) f.c):=⟨htF,fan,fad,fcn,fcd,rfl,rfl,rfl,l1,l2,u1,u2⟩
 have HG0:Hid (zag w aG g.ts/\zbU w (.bool (zc g.c).neg) (.slice gan (zc g.c).num.length gcn) (.slice gad (zc g.c).den.length gcd) g.c):=⟨htG,gan,gad,gcn,gcd,rfl,rfl,rfl,m1,m2,v1,v2⟩
 clear hf hg bf bg hP hPE hPP htF htG u1 u2 v1 v2 hRR l1 l2 m1 m2
 go_enter Tryz.func48,Tryz.ntmps48
 go_upto_region 1 with fail
 generalize((w.alloc (.cells #[.slice aF f.ts.length cF,.bool (zc f.c).neg,.slice fan (zc f.c).num.length fcn,.slice fad (zc f.c).den.length fcd] 53)).alloc (.cells #[.slice aG g.ts.length cG,.bool (zc g.c).neg,.slice gan (zc g.c).num.length gcn,.slice gad (zc g.c).den.length gcd] 53)).alloc (.cells #[.slice none 0 0,.bool false,.slice none 0 0,.slice none 0 0] 53)=W3 at *;have HAc:Hid (∀X,Below W3.heap.size W3 X->Calls Tryz.prog 78 #[.agg #[.bool (zc f.c).neg,.slice fan (zc f.c).num.length fcn,.slice fad (zc f.c).den.length fcd],.agg #[.bool (zc g.c).neg,.slice gan (zc g.c).num.length gcn,.slice gad (zc g.c).den.length gcd]] X (zcj X (zc (f.c+g.c)))):=fun X hb=>by
  have hb2:=HT.out.bl.trans (hb.mono HT.out.bl.size);have hp:=HPP.out;rw[HPE.out]at hp;have h:=zke (HF0.out.2.below hb2).val (HG0.out.2.below hb2).val ((hp.b5 (HBf.out.c.mono Ya)).mono Yd) ((hp.b5 (HBg.out.c.mono Ya)).mono Yd);exact T9
 refine zj 9 Yb Yb Yb Yb Yd (zbZ W3.heap.size W3) (fun w w'=>Below w.heap.size w w') (GX [.val (.pointer (some ⟨w.heap.size,0,none⟩)),.val (.slice aF f.ts.length cF),.val (.pointer (some ⟨w.heap.size,1,none⟩)),.val (.agg #[.bool (zc f.c).neg,.slice fan (zc f.c).num.length fcn,.slice fad (zc f.c).den.length fcd]),.val (.pointer (some ⟨w.heap.size+1,1,none⟩)),.val (.agg #[.bool (zc g.c).neg,.slice gan (zc g.c).num.length gcn,.slice gad (zc g.c).den.length gcd]),.rat (f.c+g.c),.num (.slice aF f.ts.length cF) (f.c+g.c),.new4 W3.heap.size]) (fun i v w w' h hb=>zpR h hb) (zbZ.start (Za _)) ?_ ?_
 ·intro ops;simp only[Zo,Zw,zbR]
  refine⟨?v0,?v1,?v2,?v3,?v4,?v5,?_,?_,?_,trivial⟩
  all_goals (intro y' X hR hL;have hB:=hR.base;have hT2:=HT.out.below hR.be;obtain⟨f0,f1,f2,f3,_,ft⟩:=hT2.fb;obtain⟨g0,g1,g2,g3,_,gt⟩:=hT2.gb;clear hT2;simp only[zdt,Region.binds,ZB,Zn,Zx,GX,Zf,Zc]at hL;simp[ze,Act.put])
  case v0|v1|v2|v3|v4|v5=>
   exact OB
  ·try simp only[hL]
   clear hL;have HR:=hid hR;clear hR;have HCt:=hid (HAc.out X HR.out.be);exact Up
  ·generalize y' 1=y1 at hL⊢;generalize y' 6=y6 at hL⊢;obtain⟨rfl,H6,_⟩:=hL;obtain⟨K6,HR⟩:=hd2 H6 hR;clear hR H6;obtain⟨an',ad',cn',cd',rfl,l1,l2,u1,u2⟩:=K6.out.ex;have HRC:=hid (show zbU X _ _ _ _ from⟨an',ad',cn',cd',rfl,rfl,rfl,l1,l2,u1,u2⟩);clear u1 u2 K6;exact Il
  ·try simp only[hL]
   clear hL;have HR:=hid hR;clear hR;obtain⟨HK4,HN4,HBa⟩:=hd3 (zbl.alloc X (.slice none 0 0) (.bool false) (.slice none 0 0) (.slice none 0 0) 53) ((zfo.alloc (za6 X) 53).al) ((Ze X.heap.size X).alloc (Za _) (.cells #[.slice none 0 0,.bool false,.slice none 0 0,.slice none 0 0] 53));exact Em
 ·intro ops y' X hR hL;have hB:=hR.base;have J7:=hL.1.2;have J8:=hL.2;simp only[GX,Zf,Zc]at J7 J8;have hT2:=HT.out.below hR.be;obtain⟨f0,f1,f2,f3,_,ft⟩:=hT2.fb;obtain⟨g0,g1,g2,g3,_,gt⟩:=hT2.gb;clear hT2;clear hL;simp only[Zo,Zw,ZG,ZO];simp[ze,Act.put];generalize y' 7=y7 at J7⊢;generalize y' 8=y8 at J8⊢;have HR:=hid hR;clear hR;obtain⟨r1,r2,r3,rfl,hrc⟩:=J7;obtain⟨tb,rfl,htb,hbx,hal⟩:=J8;have hbX:Below W3.heap.size W3 X:=HR.out.be;have hbw:=HT.out.bl.trans (hbX.mono HT.out.bl.size);have HAt:=hid (AcF.step (q0:=.slice aF f.ts.length cF) (q1:=r1) (q2:=r2) (q3:=r3) (k:=⟨zdb f.ts (g.ts.take 0),f.c+g.c⟩) (⟨⟨_,_,_,_,⟨hbx,hal,za6 X⟩⟩,hbX,htb⟩:AcF W3 X tb zcB) (Ze X.heap.size X) ⟨⟨aF,cF,rfl,hcF,(HF0.out.1.below zby hbw)⟩,hrc⟩);obtain⟨an',ad',cn',cd',rfl,rfl,rfl,_⟩:=hrc.ex;obtain⟨b0,b1,b2,b3,bff,bflt⟩:=hbx;clear hrc hal hbX hbw f0 f1 f2 f3 ft g0 g1 g2 g3 gt HAc
  go_upto_region 2 with fail
  generalize(((X.setCell ⟨tb,0,none⟩ (.slice aF f.ts.length cF)).setCell ⟨tb,1,none⟩ (.bool (zc (f.c+g.c)).neg)).setCell ⟨tb,2,none⟩ (.slice an' (zc (f.c+g.c)).num.length cn')).setCell ⟨tb,3,none⟩ (.slice ad' (zc (f.c+g.c)).den.length cd')=W6 at *;clear b0 b1 b2 b3 bff bflt HR;go_wp2
  go_loopw [6] (fun i wr=>∃j:Nat,j<=g.ts.length/\i=.int .i64 (j:Int)/\Hid (AcF W3 wr tb ⟨zdb f.ts (g.ts.take j),f.c+g.c⟩)) (fun i _=>g.ts.length-(intOf i).toNat)
  case atStart=>exact⟨0,Zs _,rfl,HAt.out⟩
  case round=>
   obtain⟨j,hj,rfl,HA⟩:=hrel;obtain⟨HTr,HB⟩:=hd2 (HT.out.below HA.out.bl) HA.out.bl;have HBw:=hid HTr.out.bl;obtain⟨g0,g1,g2,g3,gf,glt⟩:=HTr.out.gb
   by_cases hlt:j<g.ts.length
   ·obtain⟨bF,oF,⟨u,p⟩,p0,p1,p2,p3,haF,hbF,hx,e0,e1,e2,e3,rfl,hrc⟩:=(HG0.out.1.below zby HBw.out).pick hlt;simp only at e0 hrc;have HRc:=hid hrc;obtain⟨an',ad',cn',cd',rfl,rfl,rfl,_⟩:=hrc.ex;obtain⟨FJ,hFJ⟩:∃FJ:zl,FJ=⟨zdb f.ts (g.ts.take j),f.c+g.c⟩:=⟨_,rfl⟩
    obtain⟨FK,hFK⟩:∃FK:zl,FK=⟨zdb f.ts (g.ts.take (j+1)),f.c+g.c⟩:=⟨_,rfl⟩
    have HFK:=hid hFK;have HStep:Hid ((⟨zex FJ.ts u p,FJ.c⟩:zl)=FK):=by
     unfold Hid;rw[hFJ,hFK,zaG hx,zfD]
    have HA1:=HA.out;rw[<- hFJ]at HA1;have HA2:=hid HA1;have hlen:FJ.ts.length<=500000:=by
     rw[hFJ];have h:=zgS f.ts (g.ts.take j);rw[Z8]at h;show(zdb f.ts (g.ts.take j)).length<=500000
     omega
    obtain⟨sa,sn,sc,sb,san,snn,scn,sad,snd,scd,hbxs⟩:=HA1.spell;have HSf:=hid hbxs.fm.val;have hcan:FJ.Can:=by rw[hFJ];exact zdk HBf.out.can
    have HPl:Hid (∀X,Below wr.heap.size wr X->Calls Tryz.prog 79 #[.agg #[.slice sa sn sc,.bool sb,.slice san snn scn,.slice sad snd scd],.int .i64 (u:Int),.agg #[.bool (zc p).neg,.slice an' (zc p).num.length cn',.slice ad' (zc p).den.length cd']] X (za2 X FK)):=fun X hb=>by
     have hp:=HPP.out;rw[HPE.out]at hp;have h:=zsF (v:=u) (HSf.out.below hb) (HRc.out.below hb).val hcan
      (fun t ht=>by rw[hFJ]at ht;exact(hp.b5 (zqe HBf.out HBg.out ht)).mono Yd) ((hp.b5 ((HBg.out.mem (Zq hx)).mono Ya)).mono Yd)
      (fun p' ht=>by rw[hFJ]at ht;exact(hp.b5 (zm1 HBf.out HBg.out hx ht)).mono Yd) hlen
     rw[HStep.out]at h;exact h
    have HCe:Hid (∀X,Below wr.heap.size wr X->X.cell? ⟨tb,0,none⟩=some (.slice sa sn sc)/\X.cell? ⟨tb,1,none⟩=some (.bool sb)/\X.cell? ⟨tb,2,none⟩=some (.slice san snn scn)/\X.cell? ⟨tb,3,none⟩=some (.slice sad snd scd)/\tb<X.heap.size/\
      X.cell? ⟨w.heap.size+1,0,none⟩=some (.slice (some ⟨bF,oF,none⟩) g.ts.length cG)/\w.heap.size+1<X.heap.size/\
      X.cell? ⟨bF,oF+j*4,none⟩=some (.int .i64 (u:Int))/\X.cell? ⟨bF,oF+j*4+1,none⟩=some (.bool (zc p).neg)/\X.cell? ⟨bF,oF+j*4+2,none⟩=some (.slice an' (zc p).num.length cn')/\X.cell? ⟨bF,oF+j*4+3,none⟩=some (.slice ad' (zc p).den.length cd')/\bF<X.heap.size):=fun X hb=>by
     have hT:=HTr.out.below hb;have h0:=hbxs.bx.below hb;exact⟨h0.c0,h0.c1,h0.c2,h0.c3,h0.lt,by rw[<- haF];exact hT.gb.c0,hT.gb.lt,(hb.cell hbF).trans e0,(hb.cell hbF).trans e1,(hb.cell hbF).trans e2,(hb.cell hbF).trans e3,Zb hbF hb.size⟩
    rw[haF];rw[haF]at g0;have HXx:=hid hx;clear hx hrc e0 e1 e2 e3 hbxs HA1 hFJ hFK hcan hlen HA
    go_upto_region 5 with fail
    clear g0 g1 g2 g3 gf glt
    refine zj 14 Yb Yb Yb Yb Yd (zbZ wr.heap.size wr) (fun w w'=>Below w.heap.size w w') (GQ [.val (.agg #[.slice sa sn sc,.bool sb,.slice san snn scn,.slice sad snd scd]),.val (.pointer (some ⟨w.heap.size+1,0,none⟩)),.val (.slice (some ⟨bF,oF,none⟩) g.ts.length cG),.val (.int .i64 (j:Int)),.val (.pointer (some ⟨bF,oF+j*4,none⟩)),.val (.pointer (some ⟨bF,oF+j*4,none⟩)),.val (.int .i64 (u:Int)),.val (.pointer (some ⟨w.heap.size+1,0,none⟩)),.val (.slice (some ⟨bF,oF,none⟩) g.ts.length cG),.val (.int .i64 (j:Int)),.val (.pointer (some ⟨bF,oF+j*4,none⟩)),.val (.pointer (some ⟨bF,oF+j*4+1,none⟩)),.val (.agg #[.bool (zc p).neg,.slice an' (zc p).num.length cn',.slice ad' (zc p).den.length cd']),.frm FK]) (fun i v w w' h hb=>zaV h hb) (zbZ.start (Za _)) ?_ ?_
    ·intro ops;simp only[Zo,Zw,zbR]
     refine⟨?v0,?v1,?v2,?v3,?v4,?v5,?v6,?v7,?v8,?v9,?v10,?v11,?v12,?_,trivial⟩
     all_goals (intro y' X hR hL;have hB:=hR.base;obtain⟨t0,t1,t2,t3,tlt,g0,glt,e0,e1,e2,e3,elt⟩:=HCe.out X hR.be;simp only[zdt,Region.binds,ZB,Zn,Zx,GQ,Zf,Zc]at hL;simp[ze,Act.put])
     case v0|v1|v2|v3|v4|v5|v6|v7|v8|v9|v10|v11|v12=>
      exact OB
     ·try simp only[hL]
      clear hL;have HR:=hid hR;clear hR;have HCt:=hid (HPl.out X HR.out.be);exact Up
    ·intro ops y' X hR hL;have hB:=hR.base;have J13:=hL.2;simp only[GQ,Zf,Zc]at J13;obtain⟨t0,t1,t2,t3,tlt,g0,glt,e0,e1,e2,e3,elt⟩:=HCe.out X hR.be;clear hL;simp only[Zo,Zw,ZG,ZO];simp[ze,Act.put];generalize y' 13=y13 at J13⊢;have HR:=hid hR;clear hR;obtain⟨ra,rn,rc,rb,ran,rnn,rcn,rad,rnd,rcd,rfl⟩:=J13.spell;have HSt:=hid (HA2.out.step (show Below wr.heap.size wr X from HR.out.be) J13.fp);obtain⟨_,_,_,_,hbz⟩:=(HA2.out.below (show Below wr.heap.size wr X from HR.out.be)).ex;obtain⟨s0,s1,s2,s3,sff,slt⟩:=hbz.bx;rw[HFK.out]at HSt;clear J13 hbz t0 t1 t2 t3 tlt g0 glt e0 e1 e2 e3 elt;go_wp2;exact Ix
   ·obtain rfl:j=g.ts.length:=Ya;have hA:=HA.out;rw[ZM (Za _),<- HRR.out]at hA;obtain⟨sa,sn,sc,sb,san,snn,scn,sad,snd,scd,hbxs⟩:=hA.spell;obtain⟨⟨a',c',e',hcc,htm⟩,hrc⟩:=hbxs.fm;simp only[Value.slice.injEq]at e';obtain⟨rfl,e2,rfl⟩:=e';obtain⟨TS,hTS⟩:∃TS,TS=RR.ts:=⟨_,rfl⟩
    obtain⟨KC,hKC⟩:∃KC,KC=RR.c:=⟨_,rfl⟩
    rw[<- hTS]at htm e2 hcc;rw[<- hKC]at hrc;obtain⟨news,hsrc,_,hel⟩:=zf5.src zby htm;rw[<- e2]at hsrc hcc;have hsn:sn<=500000:=by
     rw[e2,hTS,HRR.out];have h:=zgS f.ts g.ts;show(zdb f.ts g.ts).length<=500000
     omega
    obtain⟨HSrc,HEl,HRc,HSn,HTS⟩:=hd5 hsrc hel hrc e2.symm (And.intro hTS hKC);have HCe:Hid (∀X,Below wr.heap.size wr X->X.cell? ⟨tb,0,none⟩=some (.slice sa sn sc)/\X.cell? ⟨tb,1,none⟩=some (.bool sb)/\X.cell? ⟨tb,2,none⟩=some (.slice san snn scn)/\X.cell? ⟨tb,3,none⟩=some (.slice sad snd scd)/\tb<X.heap.size):=fun X hb=>by
     have h0:=hbxs.bx.below hb;exact⟨h0.c0,h0.c1,h0.c2,h0.c3,h0.lt⟩
    clear hA hbxs htm hrc hsrc hel hTS hKC e2 hcc HA
    go_upto_region 6 with fail
    clear g0 g1 g2 g3 gf glt
    refine zal 7 Yb Yb Yb Yb Yd (CpJ wr (.pointer (some ⟨tb,0,none⟩)) (.slice sa sn sc) (.pointer (some ⟨tb,1,none⟩)) (.bool sb) (.slice san snn scn) (.slice sad snd scd) sn TS) (fun g=>CpJ.start g) ?_ ?_
    ·intro ops;simp only[Zo,Zw,zc1]
     refine⟨?_,?_,?_,?_,?_,?_,?_,trivial⟩
     all_goals (intro d y' X hJ hd hW;simp only[zaE,Region.binds,ZB,Zn,Zx,Z0,Z6]at hW)
     ·have HJ:=hid hJ;clear hJ hW;simp[ze,Act.put];go_wp2
      first|exact⟨_,rfl,HJ.out.s0⟩|exact HJ.out.s0
     ·have HJ:=hid hJ;clear hJ hW;simp[ze,Act.put];go_wp2
      first|exact⟨_,rfl,HJ.out.sv (.inl ⟨rfl,rfl⟩)⟩|exact HJ.out.sv (.inl ⟨rfl,rfl⟩)
     ·have h1:d 1=true:=Ye;obtain⟨HJ,HV1⟩:=hd2 hJ (hJ.v1 h1);obtain⟨t0,t1,t2,t3,tlt⟩:=HCe.out X hJ.be;clear hJ hW h1;simp[ze,Act.put];generalize hy1:y' 1=y1;obtain rfl:=hy1.symm.trans HV1.out;go_wp2
      first|exact⟨_,rfl,HJ.out.sv (.inr (.inl ⟨rfl,rfl⟩))⟩|exact HJ.out.sv (.inr (.inl ⟨rfl,rfl⟩))
     ·have h0:d 0=true:=Ye;have h2:d 2=true:=Ye;have HJ:=hid hJ;obtain⟨bb,e0,hbb,hh⟩:=hJ.v0 h0 hd;obtain⟨HV0,HV2,HOe,HD⟩:=hd4 e0 (hJ.v2 h2) (zea (T:=84) (size:=4) hh hbb) hd;clear e0 hh hbb hd;clear hJ hW h0 h2;simp[ze,Act.put];generalize hy0:y' 0=y0;obtain rfl:=hy0.symm.trans HV0.out;generalize hy2:y' 2=y2;obtain rfl:=hy2.symm.trans HV2.out
      go_wp2_with (at_builtin;go_loud (refine zaa rfl (.tmp 36) (.tmp 38) 47 47 rfl wr.heap.size 84 (.agg #[.int .i64 0,.bool false,.slice none 0 0,.slice none 0 0]) 4 64 Tryz.underlying47 Tryz.underlying47 Yb rfl Ya (.slice (some ⟨bb,0,none⟩) 0 0) 0 [] rfl HOe.out sa sn sc news rfl (HSrc.out.below HJ.out.be) Ya Yf HJ.out.be.size ?_;intro v' w5 hown hg hnx;have HS3:=hid (zsw HJ.out HD.out HSn.out HEl.out hsn HOe.out hown hg);obtain⟨b5,c5,rfl,_⟩:=zdZ hown;clear hown hg hnx))
      rw[ZR]at HS3⊢
      first|exact⟨_,rfl,HS3.out⟩|exact HS3.out
     ·have HJ:=hid hJ;clear hJ hW;simp[ze,Act.put];go_wp2
      first|exact⟨_,rfl,HJ.out.sv (.inr (.inr (.inl ⟨rfl,rfl⟩)))⟩|exact HJ.out.sv (.inr (.inr (.inl ⟨rfl,rfl⟩)))
     ·have h4:d 4=true:=Ye;obtain⟨HJ,HV4⟩:=hd2 hJ (hJ.v4 h4);obtain⟨t0,t1,t2,t3,tlt⟩:=HCe.out X hJ.be;clear hJ hW h4;simp[ze,Act.put];generalize hy4:y' 4=y4;obtain rfl:=hy4.symm.trans HV4.out;go_wp2
      first|exact⟨_,rfl,HJ.out.sv (.inr (.inr (.inr ⟨rfl,rfl⟩)))⟩|exact HJ.out.sv (.inr (.inr (.inr ⟨rfl,rfl⟩)))
     ·have h3:d 3=true:=Ye;have h5:d 5=true:=Ye;have HJ:=hid hJ;obtain⟨b3,c3,e3,l3,tm3⟩:=hJ.v3 h3;obtain⟨HV3,HV5,HTm,HH3⟩:=hd4 e3 (hJ.v5 h5) tm3 h3;clear e3 tm3;clear hJ hW h3 h5;simp[ze,Act.put];generalize hy3:y' 3=y3;generalize hy5:y' 5=y5;obtain rfl:=hy3.symm.trans HV3.out;obtain rfl:=hy5.symm.trans HV5.out;go_wp2
      first|exact⟨_,rfl,HJ.out.s6 HH3.out l3 HTm.out⟩|exact HJ.out.s6 HH3.out l3 HTm.out
    ·intro ops d y' X hA hJ;obtain⟨b6,c6,e6,l6,tm6⟩:=hJ.v6 (hA 6 Yd);obtain⟨HV6,HBX⟩:=hd2 e6 hJ.be;have hTX:=HTr.out.below hJ.be;have hfm:zap X (.agg #[.slice b6 sn c6,.bool sb,.slice san snn scn,.slice sad snd scd]) RR:=⟨_,_,_,_,rfl,⟨b6,c6,by rw[<- HTS.out.1,HSn.out],by rw[<- HTS.out.1,HSn.out];exact l6,by rw[<- HTS.out.1];exact tm6⟩,by rw[<- HTS.out.2];exact HRc.out.below hJ.be⟩
     have HO:=hid (hfm.ret hTX.nr hTX.bl Ya);obtain⟨r0,r1,r2,r3,rf,rlt⟩:=hTX.rb;clear e6 tm6 hJ hA hTX hfm;simp only[Zo,Zw,ZG,ZO];simp[ze,Act.put];generalize hy6:y' 6=y6;obtain rfl:=hy6.symm.trans HV6.out;go_wp2;exact Zp (by simp[results,Tryz.results48,go_sem,r0,r1,r2,r3,rlt,Zbc rlt]) rfl HO.out
theorem znr:Bd 1 1 (-1):=⟨Ya,-1,by rw[Zby];rfl,Yd⟩
theorem zts{w:World}{vf vg:Value}{f g:zl}{D B C N:Nat}(hf:zap w vf f)(hg:zap w vg g)(bf:BdF D B N f)(bg:BdF D C N g)(hP:Pay D (B+C))(hN:N<=250000):
  Calls Tryz.prog 28 #[vf,vg] w (za2 w (zbi (-1) f g)):=by
 have hsg:BdF D C N (scA (-1) g):=by
  have h:=BdF.sc znr bg
  rwa [Zao,Zao]at h
 have c1:∀t∈g.ts,zD (zc t.2) 1048575:=fun t ht=>(hP.b5 ((bg.mem ht).mono Ya)).mono Yd
 have c2:zD (zc g.c) 1048575:=(hP.b5 (bg.c.mono Ya)).mono Yd;have c3:zD (zc (-1)) 1048575:=(znr.le (k:=1) Yd).mono Yd;have c4:∀t∈g.ts,zD (zc (t.2*(-1))) 1048576:=fun t ht=>by
  have h:=(Bd.zero (B:=0) bg.pos).sub (bg.mem ht);rw[show(0:Rat)-t.2=t.2*(-1) by grind]at h;exact(hP.b5 (h.mono Ya)).mono Yd
 have hlG:g.ts.length<=500000:=by have:=bg.few;omega
 have hcG:=bg.can;have HAd0:Hid (∀(X:World) (v u:Value),zap X v f->zap X u (scA (-1) g)->Calls Tryz.prog 48 #[v,u] X (za2 X (zbi (-1) f g))):=fun X v u h1 h2=>by
  have h:=ztN h1 h2 bf hsg hP hN
  rwa [zp3]at h
 obtain⟨aF,cF,fan,fad,fcn,fcd,rfl,hcF,htF,l1,l2,u1,u2⟩:=hf.parts;obtain⟨aG,cG,gan,gad,gcn,gcd,rfl,hcG2,htG,m1,m2,v1,v2⟩:=hg.parts;obtain⟨HF,HG⟩:=hd2 hf hg;obtain⟨RR,hRR⟩:∃RR,RR=zbi (-1) f g:=⟨_,rfl⟩
 obtain⟨SG,hSG⟩:∃SG,SG=scA (-1) g:=⟨_,rfl⟩
 rw[<- hRR,<- hSG]at HAd0;rw[<- hRR];have HT:=hid (zpG.mk' w (.slice aF f.ts.length cF) (.bool (zc f.c).neg) (.slice fan (zc f.c).num.length fcn) (.slice fad (zc f.c).den.length fcd) (.slice aG g.ts.length cG) (.bool (zc g.c).neg) (.slice gan (zc g.c).num.length gcn) (.slice gad (zc g.c).den.length gcd) 53);have HSc0:Hid (∀(X:World) (v u:Value),zap X v g->RatV X u (zc (-1))->Calls Tryz.prog 49 #[v,u] X (za2 X SG)):=fun X v u h1 h2=>by
  rw[hSG];exact zrK h1 h2 hcG c1 c2 c3 c4 hlG
 have HOf:Hid (∀X,Calls Tryz.prog 27 #[.int .i64 (-1)] X (zcj X (zc (-1)))):=fun X=>by
  have h:=zsV X (-1) Yd Yd;exact h
 clear hf hg bf bg hP htF htG u1 u2 v1 v2 hRR hSG l1 l2 m1 m2 hsg c1 c2 c3 c4 hcG hlG
 go_enter Tryz.func28,Tryz.ntmps28
 go_upto_region 1 with fail
 generalize((w.alloc (.cells #[.slice aF f.ts.length cF,.bool (zc f.c).neg,.slice fan (zc f.c).num.length fcn,.slice fad (zc f.c).den.length fcd] 53)).alloc (.cells #[.slice aG g.ts.length cG,.bool (zc g.c).neg,.slice gan (zc g.c).num.length gcn,.slice gad (zc g.c).den.length gcd] 53)).alloc (.cells #[.slice none 0 0,.bool false,.slice none 0 0,.slice none 0 0] 53)=W3 at *;have HSc:Hid (∀X,Below W3.heap.size W3 X->∀u,RatV X u (zc (-1))->Calls Tryz.prog 49 #[.agg #[.slice aG g.ts.length cG,.bool (zc g.c).neg,.slice gan (zc g.c).num.length gcn,.slice gad (zc g.c).den.length gcd],u] X (za2 X SG)):=fun X hb u hu=>HSc0.out X _ u (HG.out.below (HT.out.bl.trans (hb.mono HT.out.bl.size))) hu
 have HAd:Hid (∀X,Below W3.heap.size W3 X->∀u,zap X u SG->Calls Tryz.prog 48 #[.agg #[.slice aF f.ts.length cF,.bool (zc f.c).neg,.slice fan (zc f.c).num.length fcn,.slice fad (zc f.c).den.length fcd],u] X (za2 X RR)):=fun X hb u hu=>HAd0.out X _ u (HF.out.below (HT.out.bl.trans (hb.mono HT.out.bl.size))) hu
 refine zj 5 Yb Yb Yb Yb Yd (zbZ W3.heap.size W3) (fun w w'=>Below w.heap.size w w') (GQ [.val (.agg #[.slice aF f.ts.length cF,.bool (zc f.c).neg,.slice fan (zc f.c).num.length fcn,.slice fad (zc f.c).den.length fcd]),.val (.agg #[.slice aG g.ts.length cG,.bool (zc g.c).neg,.slice gan (zc g.c).num.length gcn,.slice gad (zc g.c).den.length gcd]),.rat (-1),.frm SG,.frm RR]) (fun i v w w' h hb=>zaV h hb) (zbZ.start (Za _)) ?_ ?_
 ·intro ops;simp only[Zo,Zw,zbR]
  refine⟨?v0,?v1,?_,?_,?_,trivial⟩
  all_goals (intro y' X hR hL;have hB:=hR.base;have HT2:=hid (HT.out.below hR.be);obtain⟨f0,f1,f2,f3,_,ft⟩:=HT2.out.fb;obtain⟨g0,g1,g2,g3,_,gt⟩:=HT2.out.gb;simp only[zdt,Region.binds,ZB,Zn,Zx,GQ,Zf,Zc]at hL;simp[ze,Act.put])
  case v0|v1=>
   exact OB
  ·try simp only[hL]
   clear hL;have HR:=hid hR;clear hR;have HCt:=hid (HOf.out X);exact Up
  ·generalize y' 1=y1 at hL⊢;generalize y' 2=y2 at hL⊢;obtain⟨rfl,H2,_,_⟩:=hL;obtain⟨K2,HR⟩:=hd2 H2 hR;clear hR H2;have HCt:=hid (HSc.out X HR.out.be _ K2.out);exact Up
  ·generalize y' 0=y0 at hL⊢;generalize y' 3=y3 at hL⊢;obtain⟨rfl,H3,_,_⟩:=hL;obtain⟨K3,HR⟩:=hd2 H3 hR;clear hR H3;have HCt:=hid (HAd.out X HR.out.be _ K3.out);exact Up
 ·intro ops y' X hR hL;have hB:=hR.base;have J4:=hL.2;simp only[GQ,Zf,Zc]at J4;have HT2:=hid (HT.out.below hR.be);obtain⟨f0,f1,f2,f3,_,ft⟩:=HT2.out.fb;obtain⟨g0,g1,g2,g3,_,gt⟩:=HT2.out.gb;clear hL;simp only[Zo,Zw,ZG,ZO];simp[ze,Act.put];generalize y' 4=y4 at J4⊢;have HR:=hid hR;clear hR;have HV:=hid J4;obtain⟨a5,c5,n5,d5,e5,g5,rfl,_⟩:=J4.parts;clear J4 f0 f1 f2 f3 ft g0 g1 g2 g3 gt;obtain⟨r0,r1,r2,r3,rf,rlt⟩:=HT2.out.rb;have HO:=hid (HV.out.ret HT2.out.nr HT2.out.bl Ya);clear HV;go_wp2;exact Zp (by simp[results,Tryz.results28,go_sem,r0,r1,r2,r3,rlt,Zbc rlt]) rfl HO.out
theorem zpr{q:Rat}(h:q≠0):zdS q≠0:=by
 unfold zdS
 split
 ·omega
 ·split
  ·omega
  ·exfalso
   grind
theorem zj8:∀{l:List (Nat×Rat)} {t:Nat×Rat},t∈l->t.1<zcM l
 | (u,q)::r,t,h=>by
  show t.1<max (u+1) (zcM r)
  rcases Za7.1 h with rfl|h
  ·show u<_;omega
  ·have:=zj8 h;omega
theorem zoL{w:World}{v:Value}{f:zl}{D B N:Nat}(hf:zap w v f)(bf:BdF D B N f)(hP:Pay D B)(hN:N<=250000):
  Calls Tryz.prog 41 #[v,.int .i64 (N:Int)] w (fun e w'=>e=.returned (.bool true)/\Below w.heap.size w w'):=by
 obtain⟨a,c,an,ad,cn,cd,rfl,hc,ht,l1,l2,u1,u2⟩:=hf.parts;have q1:=ht.len;have HT:=hid ht;have HCf:Hid (RatV w (.agg #[.bool (zc f.c).neg,.slice an (zc f.c).num.length cn,.slice ad (zc f.c).den.length cd]) (zc f.c)):=⟨an,ad,cn,cd,rfl,l1,l2,u1,u2⟩
 obtain⟨HLc,HCan,HMem,HTop⟩:=hd4 ((hP.bd bf.c).mono (m:=1048576) Ya) (show zbB f.ts 0 from bf.can) (fun(t:Nat×Rat) (ht:t∈f.ts)=>(hP.bd (bf.mem ht)).mono (m:=1048576) Ya) (show ∀(t:Nat×Rat),t∈f.ts->t.1<N from fun t ht=>Zb (zj8 ht) bf.top);have x1:=zbl.alloc w (.slice a f.ts.length c) (.bool (zc f.c).neg) (.slice an (zc f.c).num.length cn) (.slice ad (zc f.c).den.length cd) 53;have b1:=blA w (.cells #[.slice a f.ts.length c,.bool (zc f.c).neg,.slice an (zc f.c).num.length cn,.slice ad (zc f.c).den.length cd] 53);obtain⟨HX1,HB1⟩:=hd2 x1 b1;clear x1 b1 ht l1 l2 u1 u2 hf bf hP
 go_enter Tryz.func41,Tryz.ntmps41
 go_upto_region 1 with fail
 generalize w.alloc (.cells #[.slice a f.ts.length c,.bool (zc f.c).neg,.slice an (zc f.c).num.length cn,.slice ad (zc f.c).den.length cd] 53)=W1 at *;generalize hn:f.ts.length=n at *;have HNn:=hid hn;clear hn;go_wp2
 go_loopw [5] (fun i wr=>∃j:Nat,j<=n/\i=.int .i64 (j:Int)/\Hid (Below W1.heap.size W1 wr)) (fun i _=>n-(intOf i).toNat)
 case atStart=>exact⟨0,Zs _,rfl,Ze _ _⟩
 case round=>
  obtain⟨j,hj,rfl,HB⟩:=hrel;have HBw:=htr HB1 HB.out;obtain⟨x0,x1,x2,x3,xf,xlt⟩:=HX1.out.below HB.out
  by_cases hlt:j<n
  ·obtain⟨b1,o1,⟨u,p⟩,p0,p1,p2,p3,rfl,hb1,hx,e0,e1,e2,e3,rfl,hrc⟩:=(HT.out.below zby HBw.out).pick (k:=j) XN;simp only at e0 hrc;have hm:=Zq hx;have hlp:=HMem.out _ hm;have htp:=HTop.out _ hm;simp only at hlp htp;have hs0:zdS p≠0:=zpr (zoI HCan.out hm);have hrl:=hlp.num;have HV1:=hrc.val;have HHx:=hid hx;obtain⟨an',ad',cn',cd',rfl,rfl,rfl,_⟩:=hrc.ex;have hal:=blA wr (.cells #[.int .i64 (u:Int),.bool (zc p).neg,.slice an' (zc p).num.length cn',.slice ad' (zc p).den.length cd'] 84);have hb4:=zbl.alloc wr (.int .i64 (u:Int)) (.bool (zc p).neg) (.slice an' (zc p).num.length cn') (.slice ad' (zc p).den.length cd') 84;obtain⟨HB4,HV2,HAl⟩:=hd3 hb4 (HV1.below hal) hal;have HBj:=htr HB hal;obtain⟨s,hs⟩:∃s,s=zdS p:=⟨_,rfl⟩
   rw[<- hs]at hs0;obtain⟨HS,HLp,HLn⟩:=hd3 hs hlp hrl;clear hx hm hs HV1 hrc hal hb4 hlp hrl
   go_upto_region 5 with fail
   generalize wr.alloc (.cells #[.int .i64 (u:Int),.bool (zc p).neg,.slice an' (zc p).num.length cn',.slice ad' (zc p).den.length cd'] 84)=wj at *;obtain⟨HX2,HBt⟩:=hd2 (HX1.out.below HBj.out) (HAl.out);have HSg:Hid (∀e,Calls Tryz.prog 71 #[.agg #[.bool (zc p).neg,.slice an' (zc p).num.length cn',.slice ad' (zc p).den.length cd']] (ext wj e) fun e1 w'=>e1=.returned (.int .i64 s)/\Below (ext wj e).heap.size (ext wj e) w'):=fun e=>by
    have h:=zkX (HV2.out.below (zF wj e)) (Zi HLn.out Ya);rw[zH,<- HS.out]at h;exact h
   have HVl:Hid (∀e,Calls Tryz.prog 67 #[.agg #[.bool (zc p).neg,.slice an' (zc p).num.length cn',.slice ad' (zc p).den.length cd']] (ext wj e) fun e1 w'=>e1=.returned (.bool true)/\Below (ext wj e).heap.size (ext wj e) w'):=fun e=>by
    have h:=zkq (HV2.out.below (zF wj e)) HLp.out;rw[zb1]at h;exact h
   clear x0 x1 x2 x3 xf xlt e0 e1 e2 e3;obtain⟨t0,t1,t2,t3,tf,tlt⟩:=HB4.out;obtain⟨x0,x1,x2,x3,xf,xlt⟩:=HX2.out;have k0:=zz x0 xlt;have f0:=zz t0 tlt;have f1:=zz t1 tlt;have f2:=zz t2 tlt;have f3:=zz t3 tlt;have d1:decide ((u:Int)<0)=false:=Zj Ya;have d2:decide ((N:Int)<=(u:Int))=false:=Zj Ya;have d2n:decide (N<=u)=false:=Zj Ya;have d3:(s==0)=false:=by rw[Zaf];exact hs0
   have d3n:decide (s=0)=false:=Zj hs0
   by_cases hj0:j=0
   ·have d4:decide (0<(j:Int))=false:=Zj Ya;have d4n:decide (0<j)=false:=Zj Ya;have HJ0:=hid hj0;clear hj0
    refine zx Yb Yb ?_
    repeat (go_big_quiet_step (first|(go_at_call 71;exact Calls.ext_of (HSg.out _))|(go_at_call 67;exact Calls.ext_of (HVl.out _))))
    exact Tt
   ·obtain⟨i,hi⟩:∃i,j=i+1:=⟨j-1,Ya⟩
    obtain⟨b2,o2,⟨u',p'⟩,q0,q1',q2',q3,hbb,hb2,hx',g0,_,_,_,rfl,_⟩:=(HT.out.below zby (HB1.out.trans (HBj.out.mono HB1.out.size))).pick (k:=i) (by rw[HNn.out];omega);obtain⟨rfl,rfl⟩:b2=b1/\o2=o1:=by cases hbb;exact⟨rfl,rfl⟩
    simp only at g0;have huu:u'<u:=zqw HCan.out i j _ _ Ya hx' HHx.out;have h0:=zz g0 hb2;have d4:decide (0<(j:Int))=true:=Zk Ya;have d4n:decide (0<j)=true:=Zk Ya;have d5:decide ((u:Int)<=(u':Int))=false:=Zj Ya;have d5n:decide (u<=u')=false:=Zj Ya;have d6:IntKind.i64.wrap ((j:Int)-1)=(i:Int):=by rw[hi];rw[IntWalk.i64_in _ Ya];omega
    have d7:(i:Int)<(n:Int):=Ya;have d8:(0:Int)<=(i:Int):=Ya;have HI:=hid hi;clear hi hbb hx' hj0
    refine zx Yb Yb ?_
    repeat (go_big_quiet_step (first|(go_at_call 71;exact Calls.ext_of (HSg.out _))|(go_at_call 67;exact Calls.ext_of (HVl.out _))))
    exact Tt
  ·obtain rfl:j=n:=Ya;have HV:=hid (zkq (HCf.out.below HBw.out) HLc.out);rw[zb1]at HV
   go_wp2_with fail
   refine HV.out.mono ?_
   rintro e w2 ⟨rfl,hb2⟩;have HBe:=htr HBw hb2;clear hb2;go_wp2;go_ret;exact⟨rfl,HBe.out⟩
theorem zlW{w:World}{a:Option Addr}{L:List zl}{D B N:Nat}(c:Nat)(h:zaz w a L)(bL:zcp D B N L)(hP:Pay D B)(hN:N<=250000):
  Calls Tryz.prog 42 #[.slice a L.length c,.int .i64 (N:Int)] w (fun e w'=>e=.returned (.bool true)/\Below w.heap.size w w'):=by
 have q1:=h.len;obtain⟨H,HBd,HP⟩:=hd3 h bL hP;clear h bL hP;generalize hn:L.length=n at *;have HNn:=hid hn;clear hn
 go_enter Tryz.func42,Tryz.ntmps42
 go_wp2
 go_loopw [5] (fun i wr=>∃j:Nat,j<=n/\i=.int .i64 (j:Int)/\Hid (Below w.heap.size w wr)) (fun i _=>n-(intOf i).toNat)
 case atStart=>exact⟨0,Zs _,rfl,Ze _ _⟩
 case round=>
  obtain⟨j,hj,rfl,HB⟩:=hrel
  by_cases hlt:j<n
  ·obtain⟨b1,o1,x,p0,p1,p2,p3,rfl,hb1,hx,e0,e1,e2,e3,hxv⟩:=(H.out.below zaX HB.out).pick (k:=j) XN;obtain⟨xa,xn,xc,xb,xan,xnn,xcn,xad,xnd,xcd,rfl,rfl,rfl,rfl⟩:=hxv.spell;have HV:=hid (zoL hxv.val (HBd.out x (Zq hx)) HP.out hN);clear hx hxv
   go_wp2_with fail
   refine HV.out.mono ?_
   rintro e w2 ⟨rfl,hb2⟩;have HB2:=htr HB hb2;clear hb2 HV e0 e1 e2 e3 hb1;go_wp2;go_roundw
   case rel=>exact⟨j+1,hlt,Yg,HB2.out⟩
   case measure=>simp[intOf];omega
  ·obtain rfl:j=n:=Ya;go_wp2;go_ret;exact⟨rfl,HB.out⟩
structure zsx (G:zd6) (D B:Nat):Prop where
 i1:1<=G.inputs
 i2:G.inputs<=256
 u:G.units.length<=1024
 o1:1<=G.outs.length
 o2:G.outs.length<=256
 bu:∀(j:Nat) (f:zl),G.units[j]? =some f->BdF D B (G.inputs+j) f
 bo:zcp D B (G.inputs+G.units.length) G.outs
theorem zk4{w:World}{G:zd6}{D B:Nat}{aU aO:Option Addr}{cU cO:Nat}(hU:zaz w aU G.units)(hO:zaz w aO G.outs)(hG:zsx G D B)(hP:Pay D B):
  Calls Tryz.prog 18 #[.agg #[.int .i64 (G.inputs:Int),.slice aU G.units.length cU,.slice aO G.outs.length cO]] w (fun e w'=>e=.returned (.bool true)/\Below w.heap.size w w'):=by
 have q1:=hG.i1;have q2:=hG.i2;have q3:=hG.u;have q4:=hG.o1;have q5:=hG.o2;have hal:=blA w (.cells #[.int .i64 (G.inputs:Int),.slice aU G.units.length cU,.slice aO G.outs.length cO] 30);have hx:=za4.alloc w (.int .i64 (G.inputs:Int)) (.slice aU G.units.length cU) (.slice aO G.outs.length cO) 30;obtain⟨HUs,HOs,HAl,HBu,HBo,HP⟩:=hd6 (hU.below zaX hal) (hO.below zaX hal) hal hG.bu hG.bo hP;have HX:=hid hx;clear hal hx hU hO hG hP
 go_enter Tryz.func18,Tryz.ntmps18
 go_upto_region 1 with fail
 generalize w.alloc (.cells #[.int .i64 (G.inputs:Int),.slice aU G.units.length cU,.slice aO G.outs.length cO] 30)=W at *;generalize hni:G.inputs=ni at *;generalize hn:G.units.length=n at *;generalize hno:G.outs.length=no at *;obtain⟨HNi,HNn,HNo⟩:=hd3 hni hn hno;clear hni hn hno;obtain⟨x0,x1,x2,xf,xlt⟩:=HX.out;have d1:decide ((ni:Int)<1)=false:=Zj Ya;have d2:decide ((256:Int)<(ni:Int))=false:=Zj Ya;have d3:decide ((1024:Int)<(n:Int))=false:=Zj Ya;have d4:decide ((no:Int)<1)=false:=Zj Ya;have d5:decide ((256:Int)<(no:Int))=false:=Zj Ya;go_wp2;clear x0 x1 x2 xf xlt d1 d2 d3 d4 d5
 go_loopw [3] (fun i wr=>∃j:Nat,j<=n/\i=.int .i64 (j:Int)/\Hid (Below W.heap.size W wr)) (fun i _=>n-(intOf i).toNat)
 case atStart=>exact⟨0,Zs _,rfl,Ze _ _⟩
 case round=>
  obtain⟨j,hj,rfl,HB⟩:=hrel;obtain⟨x0,x1,x2,xf,xlt⟩:=HX.out.below HB.out;have HBw:=htr HAl HB.out
  by_cases hlt:j<n
  ·obtain⟨b1,o1,x,p0,p1,p2,p3,hbe,hb1,hx,e0,e1,e2,e3,hxv⟩:=(HUs.out.below zaX HB.out).pick (k:=j) XN;obtain⟨xa,xn,xc,xb,xan,xnn,xcn,xad,xnd,xcd,rfl,rfl,rfl,rfl⟩:=hxv.spell;obtain⟨s,hs⟩:∃s,s=ni+j:=⟨_,rfl⟩
   have hbd:=HBu.out j x hx;rw[<- hs]at hbd;have HVl:Hid (∀e,Calls Tryz.prog 41 #[.agg #[.slice xa xn xc,.bool xb,.slice xan xnn xcn,.slice xad xnd xcd],.int .i64 (s:Int)] (ext wr e) fun e1 w'=>e1=.returned (.bool true)/\Below (ext wr e).heap.size (ext wr e) w'):=fun e=>
    zoL (hxv.val.below (zF wr e)) hbd HP.out Ya
   have hw1:IntKind.i64.wrap ((ni:Int)+(j:Int))=(s:Int):=by rw[hs,Int.natCast_add];exact IntWalk.i64_in _ Ya
   have k0:=zz x0 xlt;have k1:=zz x1 xlt;have f0:=zz e0 hb1;have f1:=zz e1 hb1;have f2:=zz e2 hb1;have f3:=zz e3 hb1;have HS:=hid hs;have hjI:(0:Int)<=(j:Int):=Ya;have hjI2:(j:Int)<(n:Int):=Ya;subst hbe;clear hx hxv hbd hs e0 e1 e2 e3
   go_upto_region 6 with fail
   clear x0 x1 x2 xf xlt
   refine zx Yb Yb ?_
   repeat (go_big_quiet_step (first|(go_at_call 41;exact Calls.ext_of (HVl.out _))))
   refine wpQuiet_nil ?_
   intro _ hw';obtain⟨nq,hw''⟩:=hw';subst hw'';have HBN:=hid (HB.out.trans ((zF wr nq).mono HB.out.size));generalize ext wr nq=w5 at *;clear hw1;exact O4
  ·obtain rfl:j=n:=Ya;obtain⟨s,hs⟩:∃s,s=ni+j:=⟨_,rfl⟩
   have hbo:=HBo.out;rw[<- hs]at hbo;have hV:=zlW cO (HOs.out.below zaX HB.out) hbo HP.out Ya;rw[HNo.out]at hV;have HV:=hid hV;have hw1:(ni:Int)+(j:Int)=(s:Int):=Ya;have HS:=hid hs;clear hbo hV hs;have HW1:=hid hw1;clear hw1
   go_wp2_with (rw[HW1.out];refine HV.out.mono ?_;rintro e w2 ⟨rfl,hb2⟩;have HBe:=htr HBw hb2;clear hb2)
   go_ret;exact⟨rfl,HBe.out⟩
structure SP where
 p:Value->World->Prop
 keep:∀v w w',p v w->Below w.heap.size w w'->p v w'
def GP(L:List SP)(i:Nat)(v:Value)(w:World):Prop:=match L[i]? with|some s=>s.p v w|none=>True
theorem zpg{L:List SP}{i:Nat}{v:Value}{w w':World}(h:GP L i v w)(hb:Below w.heap.size w w'):GP L i v w':=by
 unfold GP at h⊢
 split
 ·rename_i s e
  rw[e]at h;exact s.keep _ _ _ h hb
 ·trivial
def SP.val(x:Value):SP:=⟨fun v _=>v=x,fun _ _ _ h _=>h⟩
def SP.frm(f:zl):SP:=⟨fun v w=>zap w v f,fun _ _ _ h hb=>h.below hb⟩
def SP.rat(x:zaf):SP:=⟨fun v w=>RatV w v x,fun _ _ _ h hb=>h.below hb⟩
def SP.tru(P:Prop)(b:Bool):SP:=⟨fun v _=>v=.bool b/\P,fun _ _ _ h _=>h⟩
def zum(w:World)(v:Value)(G:zd6)(e:Int):Prop:=∃u,v=.tuple #[u,.int .i64 e]/\zhS w u G
