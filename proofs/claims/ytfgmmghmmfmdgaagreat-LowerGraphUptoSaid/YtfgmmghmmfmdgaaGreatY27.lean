/-
  Contracts: LjJ, RgA, RgB, RgC, RgD, RgE, RgF, RgG, LqC, LqE.
-/
import Derived.Test.YtfgmmghmmfmdgaaGreatY26
import Derived.Test.YtfgmmghmmfmdgaaGreatY0
set_option linter.all false
set_option maxRecDepth 100000
set_option maxHeartbeats 3200000
namespace Go.Proofs.YtfgmmghmmfmdgaaGreat
open Go.RowKit
open Go.Lib (hid)
theorem IL{P:Prop}(h:P:=by simp[zg,Act.put];obtain⟨HJ,HV,HP,HD⟩:=hd4 hJ hV hp hdeps;clear hdeps hJ hV hp hd hW;exact Us):P:=h
theorem IN{P:Prop}(h:P:=by have J1:=hJ.all 1 h1;simp only[GU,Zc,Zb]at J1;simp[zg,Act.put];generalize hg1:y' 1=y1;rw[hg1]at J1;clear hg1;obtain rfl:=J1;obtain⟨HJ,HV,HP,HD⟩:=hd4 hJ hV hp hdeps;clear hdeps hJ hV hp hd hW h1;exact Us):P:=h
theorem IR{P:Prop}(h:P:=by have J2:=hJ.all 2 h2;simp only[GU,Zc,Zb]at J2;simp[zg,Act.put];generalize hg2:y' 2=y2;rw[hg2]at J2;clear hg2;obtain rfl:=J2;obtain⟨HJ,HV,HP,HD⟩:=hd4 hJ hV hp hdeps;clear hdeps hJ hV hp hd hW h2;exact Us):P:=h
theorem IS{P:Prop}(h:P:=by have J3:=hJ.all 3 h3;simp only[GU,Zc,Zb]at J3;simp[zg,Act.put];generalize hg3:y' 3=y3;rw[hg3]at J3;clear hg3;obtain rfl:=J3;obtain⟨HJ,HV,HP,HD⟩:=hd4 hJ hV hp hdeps;clear hdeps hJ hV hp hd hW h3;exact Us):P:=h
theorem IU{P:Prop}(h:P:=by
 go_wp2
 first|refine⟨_,rfl,?_⟩|skip
 exact⟨HR.out,Zg _ _,rfl⟩
):P:=h
theorem IW{P:Prop}(h:P:=by simp[zg,Act.put];generalize hg4:y' 4=y4;rw[hg4]at J4;clear hg4;obtain rfl:=J4;have HJ:=hid hJ;clear hJ hd hW h4;exact Ui):P:=h
theorem Om{P:Prop}(h:P:=by
 try simp only[hL]
 clear hL;exact Uf
):P:=h
theorem Uf{P:Prop}(h:P:=by
 have HR:=hid hR;clear hR;exact IU
):P:=h
theorem Uh{P:Prop}(h:P:=by
 go_wp2_with fail
 refine HCt.out.mono ?_
 rintro e w1 ⟨v1,rfl,kv,kb⟩;obtain⟨KV,KB⟩:=hd2 kv kb;clear kv kb HCt;go_wp2
 first|refine⟨_,rfl,?_⟩|skip
 exact⟨(HR.out.gp KB.out),KB.out,KV.out⟩
):P:=h
theorem Us{P:Prop}(h:P:=by
 go_wp2
 first|refine⟨_,rfl,?_⟩|refine⟨rfl,_,?_⟩|skip
 exact HV.out.on HD.out HP.out (HJ.out.here Yb rfl)
):P:=h
theorem U8{P:Prop}(h:P:=by
 cases hv:zm (zk m.input (T.take j))with
 | true=>rfl
 | false=>
  exfalso
  have hb:=(zbT m.input (T.take j) l)
  unfold zk at hv
  rcases hb with⟨k,_,_⟩|⟨k,_⟩
  ·omega
  ·simp only[Zw]at k
   cases hg:(T.take j).getLast? with
   | none=>rw[hg]at hv;simp only[Option.getD_none]at hv;rw[k.1.1]at hv;cases hv
   | some z=>
    rw[hg]at hv;simp only[Option.getD_some]at hv;have:=Zap.1 k.2 z (Za7 hg);rw[this]at hv;cases hv
):P:=h
theorem UO{P:Prop}(h:P:=by
 have h:=HQ.out.curr.1;rw[<- hOX]at h;have hv:zm (zk m.input (T.take m.layers.length))=true:=by
  have ht:T.take m.layers.length=T:=ZQ Xz;rw[ht];have hva:=HCh.out.valid;unfold zk
  cases hg:T.getLast? with
  | none=>exact HVi.out
  | some z=>exact Zap.1 hva z (Za7 hg)
 have:=(zao hv).2;omega
):P:=h
theorem UW{P:Prop}(h:P:=by
 have E:Hid (last=t):=by
  unfold Hid;rw[HLast.out];unfold zk;rw[ZaE,<- hnT,hTi];rfl
 have HIt:=hid (hIt.mono (F':=Any) (fun _ _ _=>trivial));have m0:(T.length:Int)-1=(nT:Int):=Ya;have hnl:nT<T.length:=Ya;subst haT;clear hIt hTi htc hnT;go_wp2
 go_meet
 exact⟨rfl,aT,ct,_,rfl,VV,by rw[E.out];exact HIt.out⟩
):P:=h
theorem Tk{P:Prop}(h:P:=by obtain⟨V,hV⟩:=zeB (nI:=nI) (input:=m.input) (x:=zu nI) (L:=m.layers.drop (j+1)) (S:=T.take (j+1)) (Y:=Y++[LY.2]) (U:=LY.1);rw[hq2]at hV;have h1:=HTot.out;rw[hV,ZB]at h1;have h2:=HNI.out;omega):P:=h
theorem Tl{P:Prop}(h:P:=by subst e;rw[zf3];rcases hi with⟨e,rfl⟩|⟨e,rfl⟩|⟨e,rfl⟩|⟨e,rfl⟩<;>first|rfl|(exfalso;omega)):P:=h
theorem Tq{P:Prop}(h:P:=by
 simp[zg,Act.put];obtain⟨HV,HP,HAl,HPo⟩:=hd4 hV hp hal hPo;clear hV hp hal hPo hd hW;go_wp2
 first|exact⟨_,rfl,HV.out.late Yb Yd HP.out HAl.out HPo.out⟩|exact HV.out.late Yb Yd HP.out HAl.out HPo.out
):P:=h
theorem TX{P:Prop}(h:P:=by rw[<- hq,hLY];show _=zav nI m.input (zu nI) (T.take j++[(zY m.input (T.take j) l).1]) _ _ _;rw[hout,Zat,hTj];rfl):P:=h
theorem Eo{P:Prop}(h:P:=by go_wp2;refine Zr (v:=.tuple #[.agg #[.int .i64 0,.slice none 0 0,.slice none 0 0],.int .i64 8]) Y6 rfl ?_;exact zcv HF.out HB2.out gge):P:=h
theorem EC{P:Prop}(h:P:=by
 ·have h:=HRm.out;rw[show 12-j=(12-(j+1))+1 from Ya]at h;exact h.next K2.out
):P:=h
theorem EX{P:Prop}(h:P:=by
 go_wp2
 first|refine⟨_,rfl,?_⟩|skip
 exact⟨HR.out,Zg _ _,_,_,_,rfl,HRC.out⟩
):P:=h
theorem Id{P:Prop}(h:P:=by
 first|exact⟨_,rfl,HV.out.app Yb HAl.out Yd HPost.out⟩|exact HV.out.app Yb HAl.out Yd HPost.out
):P:=h
theorem Ix{P:Prop}(h:P:=by rw[<- hs0];exact⟨z3,z4,z5,z2,z1,Ya,zbt.of_heap (Za5 W0 _) Yp⟩):P:=h
theorem Iy{P:Prop}(h:P:=by rw[zas Yb]at k;rw[zeF Yb];exact h.v1 k):P:=h
theorem Iz{P:Prop}(h:P:=by rw[zas Yb]at k;rw[zeF Yb];exact h.v2 k):P:=h
theorem I0{P:Prop}(h:P:=by rw[zas Yb]at k;rw[zeF Yb];exact h.v4 k):P:=h
theorem I2{P:Prop}(h:P:=by rw[zas Yb]at k;rw[zeF Yb];exact h.v5 k):P:=h
theorem Y6{P:Prop}(h:P:=by simp[results,Tryz.results12,go_sem,g0,g1,g2]):P:=h
theorem Xs{P:Prop}(h:P:=by simp[results,Tryz.results79,go_sem,r0,r1,r2,r3,rlt,ZaL rlt]):P:=h
theorem JU{P:Prop}(h:P:=by simp[results,Tryz.results81,go_sem]):P:=h
theorem zkO(w:World)(T:Nat):w.heap.size<(w.alloc (.cells #[.int .i64 0,.slice none 0 0,.slice none 0 0] T)).heap.size/\(∀i,(w.alloc (.cells #[.int .i64 0,.slice none 0 0,.slice none 0 0] T)).frozen? ⟨w.heap.size,i,none⟩=false)/\
  (w.alloc (.cells #[.int .i64 0,.slice none 0 0,.slice none 0 0] T)).cell? ⟨w.heap.size,0,none⟩=some (.int .i64 0)/\(w.alloc (.cells #[.int .i64 0,.slice none 0 0,.slice none 0 0] T)).cell? ⟨w.heap.size,1,none⟩=some (.slice none 0 0)/\(w.alloc (.cells #[.int .i64 0,.slice none 0 0,.slice none 0 0] T)).cell? ⟨w.heap.size,2,none⟩=some (.slice none 0 0):=
 ⟨Yd,fun i=>ZaZ _ _ _ _,by rw[World.cell?_alloc_at _ _ _ _ rfl];rfl,by rw[World.cell?_alloc_at _ _ _ _ rfl];rfl,by rw[World.cell?_alloc_at _ _ _ _ rfl];rfl⟩
structure znR (w W:World) (g:Nat) (p0 p1 p2:Value):Prop where
 c0:W.cell? ⟨g,0,none⟩=some p0
 c1:W.cell? ⟨g,1,none⟩=some p1
 c2:W.cell? ⟨g,2,none⟩=some p2
 free:∀i,W.frozen? ⟨g,i,none⟩=false
 lt:g<W.heap.size
 ge:w.heap.size<=g
 al:zbt zil W g
theorem znR.belowB{w W W':World}{g B:Nat}{p0 p1 p2:Value}(h:znR w W g p0 p1 p2)(hb:Below B W W')(hg:g<B):znR w W' g p0 p1 p2:=
 ⟨(hb.cell (p:=⟨g,0,none⟩) hg).trans h.c0,(hb.cell (p:=⟨g,1,none⟩) hg).trans h.c1,(hb.cell (p:=⟨g,2,none⟩) hg).trans h.c2,fun i=>(hb.frozen (p:=⟨g,i,none⟩) hg).trans (h.free i),Zd h.lt hb.size,h.ge,h.al.belowB hb hg⟩
theorem znR.below{w W W':World}{g:Nat}{p0 p1 p2:Value}(h:znR w W g p0 p1 p2)(hb:Below W.heap.size W W'):znR w W' g p0 p1 p2:=h.belowB hb h.lt
theorem zdg{w W:World}{g:Nat}(hb:Below w.heap.size w W)(hg:w.heap.size<=g)(p0 p1 p2:Value):Below w.heap.size w (((W.setCell ⟨g,0,none⟩ p0).setCell ⟨g,1,none⟩ p1).setCell ⟨g,2,none⟩ p2):=
 ((hb.setCell (p:=⟨g,0,none⟩) hg _).setCell (p:=⟨g,1,none⟩) hg _).setCell (p:=⟨g,2,none⟩) hg _
def zlY(W1:World)(s:List Int)(s7:Value)(wx:World):Prop:=W1=wx/\∃a c n,s7=.slice a n c/\n=s.length/\z9 W1 Any a s
def zsX(w1:World)(gG gL n k:Nat)(S:zda)(U:List zl)(Y:List (List zl))(ax:Option Addr)(X:List zl)(v:Value)(W:World):Prop:=∃b c,v=.slice b (k+2) c/\LwB w1 gG gL n W S.fn U (.slice b (k+2) c) (Y++[X]) ax X
def zsR(w1:World)(gG gL n k:Nat)(S:zda)(v:Value)(W:World):Prop:=∃b c,v=.slice b (k+1) c/\zfL gG W (gL+1) (.slice b (k+1) c) (zu (k+1))/\LwB w1 gG gL n W S.fn [] (.slice none 0 0) [] b (zu (k+1))
theorem zcv{w W:World}{R:zdF×Int}{e:Int}{g:Nat}(h:R=(zei,e))(hb:Below w.heap.size w W)(hg:w.heap.size<=g):
  zfl w R (.returned (.tuple #[.agg #[.int .i64 0,.slice none 0 0,.slice none 0 0],.int .i64 e])) (((W.setCell ⟨g,0,none⟩ (.int .i64 0)).setCell ⟨g,1,none⟩ (.slice none 0 0)).setCell ⟨g,2,none⟩ (.slice none 0 0)):=by
 subst h;exact⟨_,rfl,zlI _,zdg hb hg _ _ _⟩
attribute [local go_sem] run_storeF
theorem zpq{w:World}{m:zgt}{a1 a2:Option Addr}(c1 c2:Nat)(h1:z9 w Any a1 m.input)(h2:zaO w a2 m.layers)(hr:∀l∈m.layers,zO l)(hs:∀l∈m.layers,zbC l)(hsm:∀l∈m.layers,zdM l)(hl12:m.layers.length<=12):
  Calls Tryz.prog 12 #[.agg #[.slice a1 m.input.length c1,.slice a2 m.layers.length c2]] w (zfl w (zdt m)):=by
 have q1:=h1.len;have q2:=h2.len;obtain⟨H1,H2,HRg,HSh,HSm⟩:=hd5 h1 h2 hr hs hsm;generalize hR:zdt m=RR;unfold zdt at hR;have HRd:=hid hR;clear h1 h2 hr hs hR hsm
 go_enter Tryz.func12,Tryz.ntmps12
 go_upto_region 1 with fail
 have hb0:=blA w (.cells #[.slice a1 m.input.length c1,.slice a2 m.layers.length c2] 25);have hx:=za1.alloc w (.slice a1 m.input.length c1) (.slice a2 m.layers.length c2) 25;have hs0:(w.alloc (.cells #[.slice a1 m.input.length c1,.slice a2 m.layers.length c2] 25)).heap.size=w.heap.size+1:=Yd;generalize w.alloc (.cells #[.slice a1 m.input.length c1,.slice a2 m.layers.length c2] 25)=W0 at *;have hb1:=blA W0 (.cells #[.int .i64 0,.slice none 0 0,.slice none 0 0] 30);obtain⟨z1,z2,z3,z4,z5⟩:=zkO W0 30;have hgb:znR w (W0.alloc (.cells #[.int .i64 0,.slice none 0 0,.slice none 0 0] 30)) (w.heap.size+1) (.int .i64 0) (.slice none 0 0) (.slice none 0 0):=Ix;have hx:=hx.below hb1;have hbw:Below w.heap.size w (W0.alloc (.cells #[.int .i64 0,.slice none 0 0,.slice none 0 0] 30)):=hb0.trans (hb1.mono Ya);generalize W0.alloc (.cells #[.int .i64 0,.slice none 0 0,.slice none 0 0] 30)=W at *;clear hb0 hb1 z1 z2 z3 z4 z5 hs0;obtain⟨HB0,HX,HGb⟩:=hd3 hbw hx hgb;clear hbw hgb;obtain⟨x0,x1,xf,xlt⟩:=hx
 go_wp2_with fail
 refine(sOf c1 c2 (H1.out.below HB0.out) (H2.out.below HB0.out) HRg.out HSh.out).mono ?_
 rintro e w1 ⟨⟨aS,cS,rfl,hI⟩,hb1⟩;obtain⟨HX1,HG1⟩:=hd2 (HX.out.below hb1) (HGb.out.below hb1);have HB1:=htr HB0 hb1;clear hb1 x0 x1 xf xlt HGb HX HB0
 by_cases he:(zab m).2.2=0
 ·have HCO:=hid (zfM.of he)
  rcases zdd m with⟨_,k⟩|⟨hvm,⟨T,hch,hT⟩|⟨k,_⟩⟩
  ·rw[k]at he;simp at he
  ·rw[hT]at hI HRd HCO⊢;rw[Zq rfl]at HRd;simp only at hI HRd HCO⊢;obtain⟨HI,HCh,HTl⟩:=hd3 hI hch hch.1;have hT64:T.length<=64:=V8;obtain⟨HSz,HCn⟩:=hd2 (fun X (hb:Below w1.heap.size w1 X)=>zmq c1 ((H1.out.below HB1.out).below hb)) (fun X (hb:Below w1.heap.size w1 X)=>zth c2 cS ((H2.out.below HB1.out).below hb) (hI.below hb) HCO.out);obtain⟨x0,x1,xf,xlt⟩:=HX1.out;have hvi:zm m.input=true:=by
    unfold zbl at hvm;simp only[Zw]at hvm;exact hvm.1
   have hin:=zao hvi;have HVi:=hid hvi;clear he hI hch hT hvm hvi;obtain⟨last,hlast⟩:∃last,last=zk m.input T:=⟨_,rfl⟩
   obtain⟨HLast,HSi⟩:=hd2 hlast ((H1.out.below HB1.out).mono (F':=Any) (fun _ _ _=>trivial));clear hlast
   go_upto_if 27 with fail
   go_cut [7] (fun s7 wx=>zlY w1 last s7 wx)
   case first=>
    by_cases hT0:T.length=0
    ·have q0:decide ((0:Int)<(T.length:Int))=false:=Zo Ya;have E:Hid (last=m.input):=by
      unfold Hid;rw[HLast.out,ZA hT0];rfl
     go_wp2
     go_meet
     exact⟨rfl,a1,c1,_,rfl,VV,by rw[E.out];exact HSi.out⟩
    ·have q0:decide ((0:Int)<(T.length:Int))=true:=Zk Ya;obtain⟨nT,hnT⟩:∃nT,nT=T.length-1:=⟨_,rfl⟩
     obtain⟨bT,oT,t,aT,ct,haT,tc0,hTi,htc,hIt,hbT,_⟩:=HI.out.pickc (k:=nT) Ya;exact UW
   case rest=>
    obtain⟨rfl,aL,cL,nL,rfl,hnL,hIL⟩:=hcut;subst hnL;obtain⟨HSz1,HCn1⟩:=hd2 (HSz.out w1 (Zg _ _)) (HCn.out w1 (Zg _ _));have HRd2:=HRd.out;rw[<- HLast.out]at HRd2;obtain⟨nin,hnin⟩:∃nin,nin=zJ m.input:=⟨_,rfl⟩
    obtain⟨nun,hnun⟩:∃nun,nun=zfK m.layers T:=⟨_,rfl⟩
    obtain⟨nout,hnout⟩:∃nout,nout=zJ last:=⟨_,rfl⟩
    have HSzL:=hid (fun X (hb:Below w1.heap.size w1 X)=>zmq cL (hIL.below hb));rw[<- hnin]at HSz1 HRd2 hin;rw[<- hnun]at HCn1 HRd2;rw[<- hnout]at HSzL HRd2;obtain⟨HRd3,HNin,HNun,HNout⟩:=hd4 HRd2 hnin hnun hnout;clear HRd HRd2 hnin hnun hnout HCn hIL;obtain⟨g0,g1,g2,gf,glt,gge,_⟩:=HG1.out
    by_cases ha:256<nin
    ·have qa:decide ((256:Int)<nin)=true:=Zk ha;have HF:Hid (RR=(zei,8)):=by
      have h:=HRd3.out;rw[Zq (.inl ha)]at h;exact h.symm
     clear ha HRd3
     go_wp2_with fail
     refine HSz1.out.mono ?_
     rintro e w2 ⟨rfl,rfl⟩;go_wp2
     refine Zr (v:=.tuple #[.agg #[.int .i64 0,.slice none 0 0,.slice none 0 0],.int .i64 8]) Y6 rfl ?_
     exact zcv HF.out HB1.out gge
    ·have qa:decide ((256:Int)<nin)=false:=Zo ha
     go_wp2_with fail
     refine HSz1.out.mono ?_
     rintro e w2 ⟨rfl,rfl⟩
     go_wp2_with fail
     refine HCn1.out.mono ?_
     rintro e w2 ⟨rfl,hb2⟩;obtain⟨HSzL2,HSz2⟩:=hd2 (HSzL.out w2 hb2) (HSz.out w2 hb2);rw[<- HNin.out]at HSz2;have HB2:=htr HB1 hb2;obtain⟨HG2,HX2,HI2,HSi2⟩:=hd4 (HG1.out.below hb2) (HX1.out.below hb2) (HI.out.below hb2) (HSi.out.below hb2);clear hb2 x0 x1 xf xlt HSzL HSz HSz1 HCn1 HI HSi HX1 HG1 HB1 g0 g1 g2 gf glt gge;obtain⟨x0,x1,xf,xlt⟩:=HX2.out;obtain⟨g0,g1,g2,gf,glt,gge,_⟩:=HG2.out
     by_cases hb:1024<nun
     ·have qb:decide ((1024:Int)<nun)=true:=Zk hb;have HF:Hid (RR=(zei,8)):=by
       have h:=HRd3.out;rw[Zq (.inr (.inl hb))]at h;exact h.symm
      clear hb HRd3;exact Eo
     ·have qb:decide ((1024:Int)<nun)=false:=Zo hb
      go_wp2_with fail
      refine HSzL2.out.mono ?_
      rintro e w3 ⟨rfl,rfl⟩
      by_cases hc:256<nout
      ·have qc:decide ((256:Int)<nout)=true:=Zk hc;have HF:Hid (RR=(zei,8)):=by
        have h:=HRd3.out;rw[Zq (.inr (.inr hc))]at h;exact h.symm
       clear hc HRd3;exact Eo
      ·have qc:decide ((256:Int)<nout)=false:=Zo hc;have HRd4:=HRd3.out;rw[Zh Ya]at HRd4;obtain⟨HRd5,HUn1⟩:=hd2 HRd4 (show nun<=1024 from Ya);clear HRd3 HRd4
       go_upto_region 9 with fail
       obtain⟨nI,rfl⟩:=Za8 (show 0<=nin from Ya);have hnI:1<=nI/\nI<=256:=Ya;have HNI:=hid hnI;clear qa qb qc ha hb hc hin
       go_wp2_with fail
       refine HSz2.out.mono ?_
       rintro e w3 ⟨rfl,rfl⟩;have hgs:=HG2.out.lt;have HL3:=hid (LSt.make w2 nI 30);have b3:=blA w2 (.cells #[.int .i64 (nI:Int),.slice none 0 0,.slice none 0 0] 30);have hs3:(w2.alloc (.cells #[.int .i64 (nI:Int),.slice none 0 0,.slice none 0 0] 30)).heap.size=w2.heap.size+1:=Yd;obtain⟨HX3,HB3,HS3⟩:=hd3 (HX2.out.below b3) b3 hs3;clear b3 hs3 HSz2 HSzL2 x0 x1 xf xlt g0 g1 g2 gf glt gge
       go_upto_region 10 with fail
       generalize w2.alloc (.cells #[.int .i64 (nI:Int),.slice none 0 0,.slice none 0 0] 30)=W3 at *;obtain⟨gG,hgG⟩:∃gG,gG=w2.heap.size:=⟨_,rfl⟩
       rw[<- hgG]at HL3 HB3;obtain⟨S0,hS0⟩:∃S0:zda,S0=⟨0,0,0,0,0,0,0,none,0,0,none,0,0,a1,m.input.length,c1,none,0,0,none,0,0,.nilFunc⟩:=⟨_,rfl⟩
       have hmk:=LwB.make (w1:=w2) HL3.out HB3.out S0 (by rw[hS0];rfl) 73 [] ⟨ze8.nil _ _,.inl rfl⟩;obtain⟨gL,hgL⟩:∃gL,gL=W3.heap.size:=⟨_,rfl⟩
       rw[<- hgL,show S0.cells=#[.int .i64 0,.int .i64 0,.int .i64 0,.int .i64 0,.int .i64 0,.int .i64 0,.int .i64 0,.slice none 0 0,.slice none 0 0,.slice a1 m.input.length c1,.slice none 0 0,.slice none 0 0,.nilFunc] by rw[hS0];rfl]at hmk;have b4:=blA W3 (.cells #[.int .i64 0,.int .i64 0,.int .i64 0,.int .i64 0,.int .i64 0,.int .i64 0,.int .i64 0,.slice none 0 0,.slice none 0 0,.slice a1 m.input.length c1,.slice none 0 0,.slice none 0 0,.nilFunc] 73);obtain⟨HMk,HX4,HGg,HS0⟩:=hd4 hmk (HX3.out.below b4) hgG hS0;obtain⟨x0,x1,xf,xlt⟩:=HX3.out;obtain⟨HGl,HlG⟩:=hd2 hgL (show gL=gG+1 by rw[hgL,HS3.out,hgG]);clear hmk b4 hS0 hgG hgL HX3 HL3 HB3;rw[<- HGg.out]
       go_upto_region 11 with fail
       rw[<- HGl.out];generalize W3.alloc (.cells #[.int .i64 0,.int .i64 0,.int .i64 0,.int .i64 0,.int .i64 0,.int .i64 0,.int .i64 0,.slice none 0 0,.slice none 0 0,.slice a1 m.input.length c1,.slice none 0 0,.slice none 0 0,.nilFunc] 73)=W4 at *;clear x0 x1 xf xlt;have f12:=(zaT.fn HMk.out.box).f12;rw[show S0.fu=.nilFunc by rw[HS0.out]]at f12;have ff:=(zaT.fn HMk.out.box).free;have flt:=(zaT.fn HMk.out.box).lt;have HM1:=hid (HMk.out.fnc (v:=.func (.func 33) #[] #[.pointer (some ⟨gG,0,none⟩)]) rfl)
       go_upto_region 12 with fail
       generalize W4.setCell ⟨gL,12,none⟩ (.func (.func 33) #[] #[.pointer (some ⟨gG,0,none⟩)])=W5 at *;clear f12 ff flt HMk HX4;obtain⟨S1,hS1⟩:∃S1,S1=S0.fnc (.func (.func 33) #[] #[.pointer (some ⟨gG,0,none⟩)]):=⟨_,rfl⟩
       rw[<- hS1]at HM1;have HS1:Hid (S1.nums none 0 0=S1/\S1.fu=zkX gG/\S1.aS=a1/\S1.nS=m.input.length/\S1.aT=none/\S1.nT=0/\S1.cT=0):=by
        rw[hS1,HS0.out];exact⟨rfl,rfl,rfl,rfl,rfl,rfl,rfl⟩
       have hax1:S0.ax=none:=by rw[HS0.out]
       rw[hax1]at HM1;have HM2:Hid (LwB w2 gG gL nI W5 (S1.nums none 0 0).fn [] (.slice none 0 0) [] none (zu 0)):=by
        rw[HS1.out.1];exact HM1.out
       have g0:=HM1.out.un.g0;have glt:=HM1.out.un.lt;clear hS1 hax1 HM1 HS0;go_wp2;clear g0 glt
       go_loopw [65] (fun i wr=>∃(k:Nat) (a:Option Addr) (c:Nat),k<=nI/\i=.int .i64 (k:Int)/\Hid (LwB w2 gG gL nI wr (S1.nums a k c).fn [] (.slice none 0 0) [] a (zu k))/\Hid (zfL gG wr (gL+1) (.slice a k c) (zu k))) (fun i _=>nI-(intOf i).toNat)
       case atStart=>exact⟨0,none,0,Zs _,rfl,HM2.out,zfL.nil _ _ _⟩
       case round=>
        obtain⟨k,a,c,hk,rfl,HLw,HFo⟩:=hrel
        by_cases hlk:k<nI
        ·have hLr:=HLw.out.un;have HCe:Hid (∀X,Stp gG wr X->LSt X gG nI []->X.cell? ⟨gL,10,none⟩=some (.slice a k c)/\(∀i,X.frozen? ⟨gL,i,none⟩=false)/\gL<X.heap.size):=fun X hs hl=>
          ⟨(HLw.out.stp hs hl).box.c 10 Ya,(HLw.out.stp hs hl).box.free,(HLw.out.stp hs hl).box.lt⟩
         obtain⟨V,hV⟩:∃V,V=za4 k:=⟨_,rfl⟩
         have HVar:Hid (∀X,Calls Tryz.prog 34 #[.int .i64 (k:Int)] X (zaE X V)):=fun X=>by rw[hV];exact ziR X k
         have HStep:Hid (zu (k+1)=zu k++[V]):=by rw[hV];simp[Hid,zu,Zad]
         have HLk:Hid ((zu k).length=k):=by simp[Hid,zu]
         have hk1:=HNI.out.2;have HgL:=hid HLw.out.box.lt;clear hV
         go_upto_region 15 with fail
         refine zK 9 Yc Yc Yc Yc Yb (zik gG nI wr [] [.val (.pointer (some ⟨gL,0,none⟩)),.val (.pointer (some ⟨gL,0,none⟩)),.val (.pointer (some ⟨gL,0,none⟩)),.val (.pointer (some ⟨gL,10,none⟩)),.val (.slice a k c),.val (.int .i64 (k:Int)),.frm V,.onf V] 8 [(2,1),(3,2),(4,3),(6,5),(7,6)] (.pointer (some ⟨gL,0,none⟩)) (zsR w2 gG gL nI k (S1.nums a k c))) (fun g=>zik.start YC g) ?_ ?_
         ·intro ops;simp only[Zm,Zv,zbZ]
          refine⟨?_,?_,?_,?_,?_,?_,?_,?_,?_,trivial⟩
          ·intro d y' X hV hd hW;obtain⟨hp,hJ⟩|⟨hp,hal,hPo⟩:=hV.st
           ·simp only[zaa,Region.binds,Zj,Ze,Zi,ZK,ZL]at hW;have hdeps:∀q∈([(2,1),(3,2),(4,3),(6,5),(7,6)]:List (Nat×Nat)),q.1=0->d q.2=true:=Yd;exact IL
           ·exact Tq
          ·intro d y' X hV hd hW;obtain⟨hp,hJ⟩|⟨hp,hal,hPo⟩:=hV.st
           ·simp only[zaa,Region.binds,Zj,Ze,Zi,ZK,ZL]at hW;have hdeps:∀q∈([(2,1),(3,2),(4,3),(6,5),(7,6)]:List (Nat×Nat)),q.1=1->d q.2=true:=Yd;exact IL
           ·rw[hal 1 Yb Yb]at hd;cases hd
          ·intro d y' X hV hd hW;obtain⟨hp,hJ⟩|⟨hp,hal,hPo⟩:=hV.st
           ·simp only[zaa,Region.binds,Zj,Ze,Zi,ZK,ZL]at hW;have h1:d 1=true:=Ye;have hdeps:∀q∈([(2,1),(3,2),(4,3),(6,5),(7,6)]:List (Nat×Nat)),q.1=2->d q.2=true:=Uc;exact IN
           ·rw[hal 2 Yb Yb]at hd;cases hd
          ·intro d y' X hV hd hW;obtain⟨hp,hJ⟩|⟨hp,hal,hPo⟩:=hV.st
           ·simp only[zaa,Region.binds,Zj,Ze,Zi,ZK,ZL]at hW;have h2:d 2=true:=Ye;have hdeps:∀q∈([(2,1),(3,2),(4,3),(6,5),(7,6)]:List (Nat×Nat)),q.1=3->d q.2=true:=by simp[h2]
            exact IR
           ·rw[hal 3 Yb Yb]at hd;cases hd
          ·intro d y' X hV hd hW;obtain⟨hp,hJ⟩|⟨hp,hal,hPo⟩:=hV.st
           ·obtain⟨f10,ff,flt⟩:=HCe.out X hJ.st hJ.same;simp only[zaa,Region.binds,Zj,Ze,Zi,ZK,ZL]at hW;have h3:d 3=true:=Ye;have hdeps:∀q∈([(2,1),(3,2),(4,3),(6,5),(7,6)]:List (Nat×Nat)),q.1=4->d q.2=true:=by simp[h3]
            exact IS
           ·rw[hal 4 Yb Yb]at hd;cases hd
          ·intro d y' X hV hd hW;obtain⟨hp,hJ⟩|⟨hp,hal,hPo⟩:=hV.st
           ·simp only[zaa,Region.binds,Zj,Ze,Zi,ZK,ZL]at hW;have hdeps:∀q∈([(2,1),(3,2),(4,3),(6,5),(7,6)]:List (Nat×Nat)),q.1=5->d q.2=true:=Yd;exact IL
           ·rw[hal 5 Yb Yb]at hd;cases hd
          ·intro d y' X hV hd hW;obtain⟨hp,hJ⟩|⟨hp,hal,hPo⟩:=hV.st
           ·simp only[zaa,Region.binds,Zj,Ze,Zi,ZK,ZL]at hW;have h5:d 5=true:=Ye;have hdeps:∀q∈([(2,1),(3,2),(4,3),(6,5),(7,6)]:List (Nat×Nat)),q.1=6->d q.2=true:=by simp[h5]
            have J5:=hJ.all 5 h5;simp only[GU,Zc,Zb]at J5;simp[zg,Act.put];generalize hg5:y' 5=y5;rw[hg5]at J5;clear hg5;obtain rfl:=J5;obtain⟨HJ,HV,HP,HD⟩:=hd4 hJ hV hp hdeps;clear hdeps hJ hV hp hd hW h5;have HCt:=hid (HVar.out X)
            go_wp2_with fail
            refine HCt.out.mono ?_
            rintro e w1 ⟨v1,rfl,kv,kb⟩;obtain⟨KV,KB⟩:=hd2 kv kb;clear kv kb HCt;go_wp2
            first|exact⟨_,rfl,HV.out.on HD.out HP.out (HJ.out.step Yb KB.out KV.out)⟩|exact HV.out.on HD.out HP.out (HJ.out.step Yb KB.out KV.out)
           ·rw[hal 6 Yb Yb]at hd;cases hd
          ·intro d y' X hV hd hW;obtain⟨hp,hJ⟩|⟨hp,hal,hPo⟩:=hV.st
           ·simp only[zaa,Region.binds,Zj,Ze,Zi,ZK,ZL]at hW;have h6:d 6=true:=Ye;have hdeps:∀q∈([(2,1),(3,2),(4,3),(6,5),(7,6)]:List (Nat×Nat)),q.1=7->d q.2=true:=by simp[h6]
            have J6:=hJ.all 6 h6;simp only[GU,Zc,Zb]at J6;simp[zg,Act.put];generalize hg6:y' 6=y6;rw[hg6]at J6;clear hg6;have K6:=hid J6;clear J6;obtain⟨HJ,HV,HP,HD⟩:=hd4 hJ hV hp hdeps;clear hdeps hJ hV hp hd hW h6;obtain⟨xa,xn,xc,xb,xan,xnn,xcn,xad,xnd,xcd,rfl⟩:=K6.out.spell;obtain⟨HRow,HBa⟩:=hd2 (zdp.form K6.out.fp 53) ((Zg X.heap.size X).alloc (Za _) (.cells #[.slice xa xn xc,.bool xb,.slice xan xnn xcn,.slice xad xnd xcd] 53));have HFr:=hid (HJ.out.un.fresh HBa.out (Za _) Yd);clear K6;go_wp2
            first|exact⟨_,rfl,HV.out.on HD.out HP.out (HJ.out.step Yb HBa.out ⟨HRow.out,fun b e=>YZ⟩)⟩|exact HV.out.on HD.out HP.out (HJ.out.step Yb HBa.out ⟨HRow.out,fun b e=>YZ⟩)
           ·rw[hal 7 Yb Yb]at hd;cases hd
          ·intro d y' X hV hd hW;obtain⟨hp,hJ⟩|⟨hp,hal,hPo⟩:=hV.st
           ·simp only[zaa,Region.binds,Zj,Ze,Zi,ZK,ZL]at hW;have h4:d 4=true:=Ye;have h7:d 7=true:=Ye;have h6:d 6=true:=Ye;have J4:=hJ.all 4 h4;have J7:=hJ.all 7 h7;have J6:=hJ.all 6 h6;simp only[GU,Zc,Zb]at J4 J7 J6;simp[zg,Act.put];generalize hg4:y' 4=y4;rw[hg4]at J4;generalize hg7:y' 7=y7;rw[hg7]at J7;generalize hg6:y' 6=y6;rw[hg6]at J6;clear hg4;obtain rfl:=J4;clear hg7;have K7:=hid J7;clear J7;clear hg6;have K6:=hid J6;clear J6;obtain⟨HJ,HV,HP⟩:=hd3 hJ hV hp;have h5:=hV.cl (6,5) Yd h6;have h3:=hV.cl (4,3) Yd h4;have h2:=hV.cl (3,2) Yd h3;have h1:=hV.cl (2,1) Yd h2;have hall:∀i,0<i->i<8->d i=true:=by
             intro i i1 i2;have hi:i=1∨i=2∨i=3∨i=4∨i=5∨i=6∨i=7:=Ya
             rcases hi with rfl|rfl|rfl|rfl|rfl|rfl|rfl<;>assumption
            have HAl:=hid hall;clear hall hJ hV hp hd hW h4 h7 h6 h5 h3 h2 h1;obtain⟨HFX,HLX,HGe,HRow⟩:=hd4 (HFo.out.stp HLw.out.un HJ.out.st) (HLw.out.stp HJ.out.st HJ.out.same) (show gL+1<=X.heap.size from Zl HgL.out HJ.out.st.size) K7.out.1;clear K7
            go_wp2_with (at_builtin;refine apF rfl (.tmp 72) (.tmp 75) rfl (gL+1) (.slice a k c) k (zu k) HLk.out rfl HFX.out.own _ V HRow.out rfl Ya HGe.out ?_;intro b3 k3 w3 hown hk3 hg hbe hnx;have HF3:=hid (HFX.out.app HLX.out.un hown hg hnx);rw[<- HStep.out]at HF3;have HPost:Hid (zsR w2 gG gL nI k (S1.nums a k c) (.slice b3 (k+1) k3) w3):=⟨b3,k3,rfl,HF3.out,HLX.out.appX HFX.out hg (HF3.out.read (by simp[zu];omega))⟩;clear hown hg hbe hnx)
            exact Id
           ·rw[hp]at hd;cases hd
         ·intro ops d y' X hA hV;have hz0:=hV.z0 (hA 0 Yb);obtain⟨hp,_⟩|⟨_,_,hPo⟩:=hV.st
          ·rw[hA 8 Yb]at hp;cases hp
          have HPo:=hid hPo;clear hV hA hPo;simp only[Zm,Zv,ZD,ZN];simp[zg,Act.put];generalize y' 0=y0 at hz0⊢;subst hz0;generalize y' 8=yp at HPo⊢;obtain⟨b3,k3,rfl,hF3,hL3⟩:=HPo.out;obtain⟨HL4,HF4⟩:=hd2 (hL3.nums b3 (k+1) k3) (hF3.setZ (o:=10) (u:=.slice b3 (k+1) k3) hL3.ai hL3.fre.ne (Zai _));have y10:X.cell? ⟨gL,10,none⟩=some (.slice a k c):=hL3.box.c 10 Ya;have yff:=hL3.box.free;have ylt:=hL3.box.lt;clear hF3 hL3 HPo;go_wp2;go_roundw
          case rel=>exact⟨k+1,b3,k3,hlk,Yg,HL4.out,HF4.out⟩
          case measure=>simp[intOf];omega
        ·have hkn:nI=k:=Ya;subst hkn;have hnc:nI<=c:=by
          obtain⟨a',c',e,hc⟩:=HFo.out.own.form;simp only[Value.slice.injEq]at e;obtain⟨_,e2,e3⟩:=e;omega
         have b6:=blA wr (.cells #[.slice a nI c] 28);have hOne:=zb1.one (m:=nI) (c:=c) HLw.out.un HLw.out.cur (by simp[zu]) hnc (show gL+1<=wr.heap.size from HLw.out.box.lt);have HL6:=hid ((HLw.out.below b6).own' hOne);have HL7:=hid (HL6.out.trc (some ⟨wr.heap.size,0,none⟩) 1 1);have x10:wr.cell? ⟨gL,10,none⟩=some (.slice a nI c):=HLw.out.box.c 10 Ya;have y11:(wr.alloc (.cells #[.slice a nI c] 28)).cell? ⟨gL,11,none⟩=some (.slice none 0 0):=by
          have h:=HL6.out.box.c 11 Ya;rw[h];show some (Value.slice S1.aT S1.nT S1.cT)=_
          rw[HS1.out.2.2.2.2.1,HS1.out.2.2.2.2.2.1,HS1.out.2.2.2.2.2.2]
         have yff:=HL6.out.box.free;have xlt:=HLw.out.box.lt;have ylt:=HL6.out.box.lt;have HBl:Hid (Below w2.heap.size w2 wr):=Jh;have HgL:=hid HLw.out.box.lt;clear HLw HFo hOne b6
         go_upto_region 18 with fail
         obtain⟨aT0,haT0⟩:∃aT0:Option Addr,aT0=some ⟨wr.heap.size,0,none⟩:=⟨_,rfl⟩
         rw[World.setCell_alloc_past _ _ _ _ xlt]at HL7;rw[<- haT0]at HL7⊢;clear haT0 HL6 x10 y11 yff xlt ylt;generalize(wr.setCell ⟨gL,11,none⟩ (.slice aT0 1 1)).alloc (.cells #[.slice a nI c] 28)=W6 at *;have hbl6:Below w2.heap.size w2 W6:=by have h:=HL7.out.bl;rw[HGg.out]at h;exact h
         obtain⟨x0,x1,xf,xlt⟩:=HX2.out.below hbl6;obtain⟨S2,hS2⟩:∃S2,S2=(S1.nums a nI c).trc aT0 1 1:=⟨_,rfl⟩
         rw[<- hS2]at HL7;have HK2:Hid (LwK w2 S2 m.input (zu nI).length 0 gG):=by
          unfold Hid;rw[hS2];obtain⟨_,r2,r3,r4,_⟩:=HS1.out;exact⟨r4.symm,by show z9 w2 Any S1.aS m.input;rw[r3];exact HSi2.out,by simp[zu];rfl,hnc,rfl,r2⟩
         have HT2:Hid (S2.aT=aT0/\S2.nT=1/\S2.cT=1/\S2.ax=a):=by rw[hS2];exact⟨rfl,rfl,rfl,rfl⟩
         have HLst:Hid (LwB w2 gG gL nI W6 S2.fn [] (.slice S2.aT S2.nT S2.cT) (zu nI::[]) S2.ax (zaF (zu nI) [])):=by
          obtain⟨r1,r2,r3,r4⟩:=HT2.out;unfold Hid;rw[r1,r2,r3,r4];exact HL7.out
         have HQ0:Hid (LwQ nI m.input [] [] [] 1 1 1280):=LwQ.start HNin.out (by have:=HNI.out;omega);have HTot:Hid (((zav nI m.input (zu nI) [] [] [] m.layers).1.length:Int)<=1024):=by
          unfold Hid;rw[zis HNin.out HCh.out,<- HNun.out];exact HUn1.out
         clear hS2 HL7 hbl6 HT2 hnc;go_wp2;clear x0 x1 xf xlt
         go_loopw [91] (fun i wr=>∃(j:Nat) (U:List zl) (Y:List (List zl)) (D' B':Nat) (S:zda),j<=m.layers.length/\i=.int .i64 (j:Int)/\Hid (LwB w2 gG gL nI wr S.fn U (.slice S.aT S.nT S.cT) (zu nI::Y) S.ax (zaF (zu nI) Y))/\
          Hid (LwK w2 S (zk m.input (T.take j)) (zaF (zu nI) Y).length j gG)/\Hid (Y.length=j)/\Hid (LwQ nI m.input (T.take j) U Y D' B' 1280)/\Hid (zgw (12-j) D' B')/\
          Hid (zav nI m.input (zu nI) (T.take j) Y U (m.layers.drop j)=zav nI m.input (zu nI) [] [] [] m.layers)) (fun i _=>m.layers.length-(intOf i).toNat)
         case atStart=>exact⟨0,[],[],1,1,S2,Zs _,rfl,HLst.out,HK2.out,rfl,HQ0.out,zkg,rfl⟩
         case round=>
          obtain⟨j,U,Y,D',B',S,hj,rfl,HLw,HStp,HYl,HQ,HRm,HTq⟩:=hrel;clear HLst HK2 HQ0;have HB:Hid (Below w2.heap.size w2 wr):=Jh
          by_cases hlt:j<m.layers.length
          ·have hbw:=HB2.out.trans (HB.out.mono HB2.out.size);obtain⟨bl,ol,l,ha2,hbl,hl,b1,b2,d1,d2,⟨l0,l1,l2,l3,l4,l5,l6,l7,l8⟩,r1,r2⟩:=H2.out.pick hlt;have hmem:=Zt hl;have hTj:T[j]? =some (T[j]' Y4):=Zn _;have hout:=HCh.out.2 j _ l hTj hl;rw[ZaP]at hout;have hdrop:m.layers.drop j=l::m.layers.drop (j+1):=UP;have hq:=HTq.out;rw[hdrop]at hq;have hf0:(zY m.input (T.take j) l).2=0:=by rw[hout]
           obtain⟨hfit,hnum,h7⟩:=zfz hf0;obtain⟨hcx,hcB⟩:=HQ.out.curr;have hvc:zm (zk m.input (T.take j))=true:=U8;obtain⟨LY,hLY⟩:∃LY,LY=zam nI U l (zk m.input (T.take j)) (zaF (zu nI) Y) (zbs (zu nI) Y l.frm):=⟨_,rfl⟩
           have hq2:zav nI m.input (zu nI) (T.take (j+1)) (Y++[LY.2]) LY.1 (m.layers.drop (j+1))=zav nI m.input (zu nI) [] [] [] m.layers:=TX;have hNb:nI+LY.1.length<=1280:=Tk;obtain⟨kk,k1,k2,k3⟩:=HQ.out.step hf0 (HSm.out l hmem) hvc (by rw[<- hLY];exact hNb);rw[hout,<- hLY,show T.take j++[T[j]' Y4]=T.take (j+1) by rw[Zat,hTj];rfl]at k3;have hsz2:=zao hvc;have hc9:=fun o=>hbw.cell (p:=⟨bl,o,none⟩) hbl
           have l0:=(hc9 _).trans l0;have l1:=(hc9 _).trans l1;have l2:=(hc9 _).trans l2;have l3:=(hc9 _).trans l3;have l4:=(hc9 _).trans l4;have l5:=(hc9 _).trans l5;have l6:=(hc9 _).trans l6;have l7:=(hc9 _).trans l7;have l8:=(hc9 _).trans l8;have hbl2:=Zd hbl hbw.size;obtain⟨bT,oT,t,aT,ct,haT,tc0,hTi,htc,hIt,hbT,_⟩:=HI2.out.pickc (k:=j) Y4;have E3:Hid (zk m.input (T.take (j+1))=t):=by
            unfold Hid zk;rw[List.getLast?_take,Zh Ya,show j+1-1=j from Ya,hTi];rfl
           have hf7:l.kind=7->(zbs (zu nI) Y l.frm).length=(zaF (zu nI) Y).length/\∃fr1:Nat,l.frm+1=(fr1:Int)/\fr1<Y.length+1/\(zu nI::Y)[fr1]? =some (zbs (zu nI) Y l.frm):=fun hk7=>by
            obtain⟨g1,g2,g3⟩:=h7 hk7;exact HQ.out.flen g1 g2 g3
           have HOutp:Hid (∀W',LwB w2 gG gL nI W' (S.lay l b1 d1 b2 d2).fn U (.slice S.aT S.nT S.cT) (zu nI::Y) S.ax (zaF (zu nI) Y)->Calls Tryz.prog 35 #[.pointer (some ⟨gL,0,none⟩)] W' (zpF gG nI W' LY.1 LY.2)):=fun W' hts=>by
            have hb0:Below w2.heap.size w2 W':=by have h:=hts.bl;rw[HGg.out]at h;exact h
            have hb1:=HB2.out.trans (hb0.mono HB2.out.size);rw[hLY]at hNb⊢
            refine zpS (S:=S.lay l b1 d1 b2 d2) (zaT.fn hts.box) HStp.out.fu hts.un hfit hnum hcx Ya Ya rfl rfl rfl rfl rfl rfl rfl rfl HStp.out.nS HStp.out.nx HStp.out.cx (r1.below hb1) (r2.below hb1) (HStp.out.sh.below hb0) hts.cur (fun hk7=>?_) (HSm.out l hmem) hcB (HQ.out.frm l.frm) HQ.out.hD HQ.out.hB HRm.out.now Ya hNb
            obtain⟨e1,fr1,e2,e3,e4⟩:=hf7 hk7;obtain⟨bt,af,cf,k1,k2,k3,k4⟩:=hts.own.at' e4;have hnx:=HStp.out.nx;have hnT:=HStp.out.nT;rw[e1,hnx]at k3
            refine⟨bt,0,af,cf,fr1,e2,k1,?_,k2,k3,k4,e1.trans hnx,?_⟩
            ·show fr1<S.nT
             rw[hnT,<- HYl.out];exact e3
            ·show S.nT<=1000000
             rw[hnT];omega
           obtain⟨HQ2,K1,K2,K3,HIt⟩:=hd5 hq2 k1 k2 k3 hIt;have hal:=blA wr (zbu l b1 d1 b2 d2 44);obtain⟨HTj,HBx9⟩:=hd2 (HLw.out.below hal) (b9l wr l b1 d1 b2 d2 44);subst ha2 haT;clear hq2 k1 k2 k3 hf7 h7 hfit hnum hcx hcB hvc hsz2 hf0 hdrop hq hTj hmem hout hIt hal hc9 hLY hNb r1 r2 HLw
           go_upto_region 21 with fail
           generalize wr.alloc (zbu l b1 d1 b2 d2 44)=wj at *;clear l0 l1 l2 l3 l4 l5 l6 l7 l8;obtain⟨l0,l1,l2,l3,l4,l5,l6,l7,l8,l9⟩:=HBx9.out;have HLy:=hid (HTj.out.lay l b1 d1 b2 d2);obtain⟨f0,f1,f2,f3,f4,f5,f6,f7,f8,f9,f10,f11,f12,ff,flt⟩:=zaT.fn HTj.out.box
           go_upto_region 22 with fail
           generalize((((((((wj.setCell ⟨gL,0,none⟩ (.int .i64 l.kind)).setCell ⟨gL,1,none⟩ (.int .i64 l.frm)).setCell ⟨gL,2,none⟩ (.int .i64 l.out)).setCell ⟨gL,3,none⟩ (.int .i64 l.kh)).setCell ⟨gL,4,none⟩ (.int .i64 l.kw)).setCell ⟨gL,5,none⟩ (.int .i64 l.stride)).setCell ⟨gL,6,none⟩ (.int .i64 l.pad)).setCell ⟨gL,7,none⟩ (.slice b1 l.weights.length d1)).setCell ⟨gL,8,none⟩ (.slice b2 l.bias.length d2)=wk at *;have HKS:Hid (S.lay l b1 d1 b2 d2=S.lay l b1 d1 b2 d2):=rfl;obtain⟨S3,hS3⟩:∃S3,S3=S.lay l b1 d1 b2 d2:=⟨_,rfl⟩
           have HS3:Hid (S3.aT=S.aT/\S3.nT=S.nT/\S3.cT=S.cT/\S3.fu=S.fu):=by rw[hS3];exact⟨rfl,rfl,rfl,rfl⟩
           have HC:=hid (HOutp.out wk HLy.out);rw[<- hS3]at HLy;clear HOutp HTj hS3 f0 f1 f2 f3 f4 f5 f6 f7 f8 f9 f10 f11 f12 ff flt l0 l1 l2 l3 l4 l5 l6 l7 l8 l9 HKS
           go_wp2_with fail
           refine HC.out.mono ?_
           rintro e w3 ⟨aR,cR,rfl,hcR,hR,hlR,hsR⟩;obtain⟨LU,LX⟩:=LY;simp only at hcR hR hlR K3 HQ2⊢;obtain⟨nR,hnR⟩:∃nR,nR=LX.length:=⟨_,rfl⟩
           rw[<- hnR]at hcR⊢;obtain⟨HNR,HT3⟩:=hd2 hnR.symm ((HLy.out.stp hsR hlR).cur' hR);have HT4:=hid ((HT3.out.nums aR nR cR).shap aT t.length ct);have y9:=(zaT.fn HT3.out.box).f9;have y10:=(zaT.fn HT3.out.box).f10;have yff:=HT3.out.box.free;have ylt:=HT3.out.box.lt;have HB3:Hid (Below w2.heap.size w2 w3):=by have h:=HT3.out.bl;rw[HGg.out]at h;exact h
           have tc0:=(HB3.out.cell (p:=⟨bT,oT+j,none⟩) hbT).trans tc0;have hbT2:=Zd hbT HB3.out.size;have HcR:=hid hcR;have hne1:bT≠gL:=by have h1:=HGg.out;have h2:=HlG.out;omega
           have hne2:gL≠bT:=fun e=>hne1 e.symm
           have hjT:j<T.length:=Y4;clear hR hlR hsR hnR HC HLy hcR
           go_upto_region 24 with fail
           generalize(w3.setCell ⟨gL,10,none⟩ (.slice aR nR cR)).setCell ⟨gL,9,none⟩ (.slice aT t.length ct)=w4 at *;clear y9 y10 yff ylt tc0 HT3 hne1 hne2 hjT;obtain⟨S4,hS4⟩:∃S4,S4=(S3.nums aR nR cR).shap aT t.length ct:=⟨_,rfl⟩
           have HS4:Hid (S4.aT=S.aT/\S4.nT=j+1/\S4.cT=S.cT/\S4.ax=aR/\S4.nx=nR/\S4.cx=cR/\S4.aS=aT/\S4.nS=t.length/\S4.fu=zkX gG):=by
            obtain⟨e1,e2,e3,e4⟩:=HS3.out;rw[hS4];exact⟨e1,e2.trans HStp.out.nT,e3,rfl,rfl,rfl,rfl,rfl,e4.trans HStp.out.fu⟩
           rw[<- hS4]at HT4;have HT5:Hid (LwB w2 gG gL nI w4 S4.fn LU (.slice S.aT (j+1) S.cT) (zu nI::Y) aR LX):=by
            have h:=HT4.out;rw[HStp.out.nT]at h;exact h
           have hLr:=HT5.out.un;obtain⟨aTr,haTr⟩:∃aTr,aTr=S.aT:=⟨_,rfl⟩
           obtain⟨cTr,hcTr⟩:∃cTr,cTr=S.cT:=⟨_,rfl⟩
           rw[<- haTr,<- hcTr]at HT5 HS4;have HCe:Hid (∀X,Stp gG w4 X->LSt X gG nI LU->X.cell? ⟨gL,10,none⟩=some (.slice aR nR cR)/\X.cell? ⟨gL,11,none⟩=some (.slice aTr (j+1) cTr)/\(∀i,X.frozen? ⟨gL,i,none⟩=false)/\gL<X.heap.size):=fun X hs hl=>by
            have h:=zaT.fn (HT5.out.stp hs hl).box;obtain⟨e1,e2,e3,e4,e5,e6,_⟩:=HS4.out;have h10:=h.f10;have h11:=h.f11;rw[e4,e5,e6]at h10;rw[e1,e2,e3]at h11;exact⟨h10,h11,h.free,h.lt⟩
           have HgL2:=hid HT5.out.box.lt;have HYm:Hid ((zu nI::Y).length=j+1):=JH;have HSI:Hid (∀b c,LwK w2 (S4.trc b (j+2) c) (zk m.input (T.take (j+1))) (zaF (zu nI) (Y++[LX])).length (j+1) gG):=fun b c=>by
            obtain⟨_,_,_,_,e5,e6,e7,e8,e9⟩:=HS4.out;rw[E3.out]
            refine⟨e8.symm,?_,?_,?_,rfl,e9⟩
            ·show z9 w2 Any S4.aS t
             rw[e7];exact HIt.out.mono (fun _ _ _=>trivial)
            ·show(zaF (zu nI) (Y++[LX])).length=S4.nx
             rw[e5,<- HNR.out];simp[zaF]
            ·show S4.nx<=S4.cx
             rw[e5,e6];exact HcR.out
           have HCu:Hid (zaF (zu nI) (Y++[LX])=LX):=by unfold Hid;simp[zaF]
           clear hS4 HT4 haTr hcTr HStp HS3 HIt
           refine zK 11 Yc Yc Yc Yc Yb (zik gG nI w4 LU [.val (.pointer (some ⟨gL,0,none⟩)),.val (.pointer (some ⟨gL,0,none⟩)),.val (.pointer (some ⟨gL,0,none⟩)),.val (.pointer (some ⟨gL,11,none⟩)),.val (.slice aTr (j+1) cTr),.val (.pointer (some ⟨gL,0,none⟩)),.val (.pointer (some ⟨gL,0,none⟩)),.val (.pointer (some ⟨gL,10,none⟩)),.val (.slice aR nR cR),.sl1 (.slice aR nR cR)] 10 [(2,1),(3,2),(4,3),(6,5),(7,6),(8,7),(9,8)] (.pointer (some ⟨gL,0,none⟩)) (zsX w2 gG gL nI j S4 LU (zu nI::Y) aR LX)) (fun g=>zik.start YC g) ?_ ?_
           ·intro ops;simp only[Zm,Zv,zbZ]
            refine⟨?_,?_,?_,?_,?_,?_,?_,?_,?_,?_,?_,trivial⟩
            ·intro d y' X hV hd hW;obtain⟨hp,hJ⟩|⟨hp,hal,hPo⟩:=hV.st
             ·simp only[zaa,Region.binds,Zj,Ze,Zi,ZK,ZL]at hW;have hdeps:∀q∈([(2,1),(3,2),(4,3),(6,5),(7,6),(8,7),(9,8)]:List (Nat×Nat)),q.1=0->d q.2=true:=Yd;exact IL
             ·exact Tq
            ·intro d y' X hV hd hW;obtain⟨hp,hJ⟩|⟨hp,hal,hPo⟩:=hV.st
             ·simp only[zaa,Region.binds,Zj,Ze,Zi,ZK,ZL]at hW;have hdeps:∀q∈([(2,1),(3,2),(4,3),(6,5),(7,6),(8,7),(9,8)]:List (Nat×Nat)),q.1=1->d q.2=true:=Yd;exact IL
             ·rw[hal 1 Yb Yb]at hd;cases hd
            ·intro d y' X hV hd hW;obtain⟨hp,hJ⟩|⟨hp,hal,hPo⟩:=hV.st
             ·simp only[zaa,Region.binds,Zj,Ze,Zi,ZK,ZL]at hW;have h1:d 1=true:=Ye;have hdeps:∀q∈([(2,1),(3,2),(4,3),(6,5),(7,6),(8,7),(9,8)]:List (Nat×Nat)),q.1=2->d q.2=true:=Uc;exact IN
             ·rw[hal 2 Yb Yb]at hd;cases hd
            ·intro d y' X hV hd hW;obtain⟨hp,hJ⟩|⟨hp,hal,hPo⟩:=hV.st
             ·simp only[zaa,Region.binds,Zj,Ze,Zi,ZK,ZL]at hW;have h2:d 2=true:=Ye;have hdeps:∀q∈([(2,1),(3,2),(4,3),(6,5),(7,6),(8,7),(9,8)]:List (Nat×Nat)),q.1=3->d q.2=true:=by simp[h2]
              exact IR
             ·rw[hal 3 Yb Yb]at hd;cases hd
            ·intro d y' X hV hd hW;obtain⟨hp,hJ⟩|⟨hp,hal,hPo⟩:=hV.st
             ·obtain⟨f10,f11,ff,flt⟩:=HCe.out X hJ.st hJ.same;simp only[zaa,Region.binds,Zj,Ze,Zi,ZK,ZL]at hW;have h3:d 3=true:=Ye;have hdeps:∀q∈([(2,1),(3,2),(4,3),(6,5),(7,6),(8,7),(9,8)]:List (Nat×Nat)),q.1=4->d q.2=true:=by simp[h3]
              exact IS
             ·rw[hal 4 Yb Yb]at hd;cases hd
            ·intro d y' X hV hd hW;obtain⟨hp,hJ⟩|⟨hp,hal,hPo⟩:=hV.st
             ·simp only[zaa,Region.binds,Zj,Ze,Zi,ZK,ZL]at hW;have hdeps:∀q∈([(2,1),(3,2),(4,3),(6,5),(7,6),(8,7),(9,8)]:List (Nat×Nat)),q.1=5->d q.2=true:=Yd;exact IL
             ·rw[hal 5 Yb Yb]at hd;cases hd
            ·intro d y' X hV hd hW;obtain⟨hp,hJ⟩|⟨hp,hal,hPo⟩:=hV.st
             ·simp only[zaa,Region.binds,Zj,Ze,Zi,ZK,ZL]at hW;have h5:d 5=true:=Ye;have hdeps:∀q∈([(2,1),(3,2),(4,3),(6,5),(7,6),(8,7),(9,8)]:List (Nat×Nat)),q.1=6->d q.2=true:=by simp[h5]
              have J5:=hJ.all 5 h5;simp only[GU,Zc,Zb]at J5;simp[zg,Act.put];generalize hg5:y' 5=y5;rw[hg5]at J5;clear hg5;obtain rfl:=J5;obtain⟨HJ,HV,HP,HD⟩:=hd4 hJ hV hp hdeps;clear hdeps hJ hV hp hd hW h5;exact Us
             ·rw[hal 6 Yb Yb]at hd;cases hd
            ·intro d y' X hV hd hW;obtain⟨hp,hJ⟩|⟨hp,hal,hPo⟩:=hV.st
             ·simp only[zaa,Region.binds,Zj,Ze,Zi,ZK,ZL]at hW;have h6:d 6=true:=Ye;have hdeps:∀q∈([(2,1),(3,2),(4,3),(6,5),(7,6),(8,7),(9,8)]:List (Nat×Nat)),q.1=7->d q.2=true:=by simp[h6]
              have J6:=hJ.all 6 h6;simp only[GU,Zc,Zb]at J6;simp[zg,Act.put];generalize hg6:y' 6=y6;rw[hg6]at J6;clear hg6;obtain rfl:=J6;obtain⟨HJ,HV,HP,HD⟩:=hd4 hJ hV hp hdeps;clear hdeps hJ hV hp hd hW h6;exact Us
             ·rw[hal 7 Yb Yb]at hd;cases hd
            ·intro d y' X hV hd hW;obtain⟨hp,hJ⟩|⟨hp,hal,hPo⟩:=hV.st
             ·obtain⟨f10,f11,ff,flt⟩:=HCe.out X hJ.st hJ.same;simp only[zaa,Region.binds,Zj,Ze,Zi,ZK,ZL]at hW;have h7:d 7=true:=Ye;have hdeps:∀q∈([(2,1),(3,2),(4,3),(6,5),(7,6),(8,7),(9,8)]:List (Nat×Nat)),q.1=8->d q.2=true:=by simp[h7]
              have J7:=hJ.all 7 h7;simp only[GU,Zc,Zb]at J7;simp[zg,Act.put];generalize hg7:y' 7=y7;rw[hg7]at J7;clear hg7;obtain rfl:=J7;obtain⟨HJ,HV,HP,HD⟩:=hd4 hJ hV hp hdeps;clear hdeps hJ hV hp hd hW h7;exact Us
             ·rw[hal 8 Yb Yb]at hd;cases hd
            ·intro d y' X hV hd hW;obtain⟨hp,hJ⟩|⟨hp,hal,hPo⟩:=hV.st
             ·simp only[zaa,Region.binds,Zj,Ze,Zi,ZK,ZL]at hW;have h8:d 8=true:=Ye;have hdeps:∀q∈([(2,1),(3,2),(4,3),(6,5),(7,6),(8,7),(9,8)]:List (Nat×Nat)),q.1=9->d q.2=true:=by simp[h8]
              have J8:=hJ.all 8 h8;simp only[GU,Zc,Zb]at J8;simp[zg,Act.put];generalize hg8:y' 8=y8;rw[hg8]at J8;clear hg8;obtain rfl:=J8;obtain⟨HJ,HV,HP,HD⟩:=hd4 hJ hV hp hdeps;clear hdeps hJ hV hp hd hW h8;have HBa:=hid ((Zg X.heap.size X).alloc (Za _) (.cells #[.slice aR nR cR] 28));have HFr:=hid (HJ.out.un.fresh HBa.out (Za _) Yd);have HCl:Hid ((X.alloc (.cells #[.slice aR nR cR] 28)).cell? ⟨X.heap.size,0,none⟩=some (.slice aR nR cR)):=by unfold Hid;rw[World.cell?_alloc_at _ _ _ _ rfl];rfl
              go_wp2
              first|exact⟨_,rfl,HV.out.on HD.out HP.out (HJ.out.step Yb HBa.out ⟨_,rfl,HFr.out,HCl.out⟩)⟩|exact HV.out.on HD.out HP.out (HJ.out.step Yb HBa.out ⟨_,rfl,HFr.out,HCl.out⟩)
             ·rw[hal 9 Yb Yb]at hd;cases hd
            ·intro d y' X hV hd hW;obtain⟨hp,hJ⟩|⟨hp,hal,hPo⟩:=hV.st
             ·simp only[zaa,Region.binds,Zj,Ze,Zi,ZK,ZL]at hW;have h4:d 4=true:=Ye;have h9:d 9=true:=Ye;have J4:=hJ.all 4 h4;have J9:=hJ.all 9 h9;simp only[GU,Zc,Zb]at J4 J9;simp[zg,Act.put];generalize hg4:y' 4=y4;rw[hg4]at J4;generalize hg9:y' 9=y9;rw[hg9]at J9;clear hg4;obtain rfl:=J4;clear hg9;have K9:=hid J9;clear J9;obtain⟨HJ,HV,HP⟩:=hd3 hJ hV hp;have h8:=hV.cl (9,8) Yd h9;have h7:=hV.cl (8,7) Yd h8;have h6:=hV.cl (7,6) Yd h7;have h5:=hV.cl (6,5) Yd h6;have h3:=hV.cl (4,3) Yd h4;have h2:=hV.cl (3,2) Yd h3;have h1:=hV.cl (2,1) Yd h2;have hall:∀i,0<i->i<10->d i=true:=by
               intro i i1 i2;have hi:i=1∨i=2∨i=3∨i=4∨i=5∨i=6∨i=7∨i=8∨i=9:=Ya
               rcases hi with rfl|rfl|rfl|rfl|rfl|rfl|rfl|rfl|rfl<;>assumption
              have HAl:=hid hall;clear hall hJ hV hp hd hW h4 h9 h8 h7 h6 h5 h3 h2 h1;obtain⟨HLX,HGe⟩:=hd2 (HT5.out.stp HJ.out.st HJ.out.same) (show gL+1<=X.heap.size from Zl HgL2.out HJ.out.st.size);obtain⟨gs,rfl,hgf,hgc⟩:=K9.out;have HGc:=hid hgc;clear K9 hgf hgc
              go_wp2_with (at_builtin;refine zfC rfl (.tmp 116) (.tmp 121) 70 rfl gG nI (gL+1) Tryz.underlying70 Yc (.slice aTr (j+1) cTr) (j+1) (zu nI::Y) LU HYm.out rfl HLX.out.own HLX.out.un LX nR HNR.out aR cR HcR.out HLX.out.cur gs HGc.out rfl Ya HGe.out ?_;intro b3 k3 w5 hown hk3 hg;have HPost:Hid (zsX w2 gG gL nI j S4 LU (zu nI::Y) aR LX (.slice b3 (j+2) k3) w5):=⟨b3,k3,rfl,HLX.out.app hown hg⟩;clear hown hg)
              exact Id
             ·rw[hp]at hd;cases hd
           ·intro ops d y' X hA hV;have hz0:=hV.z0 (hA 0 Yb);obtain⟨hp,_⟩|⟨_,_,hPo⟩:=hV.st
            ·rw[hA 10 Yb]at hp;cases hp
            have HPo:=hid hPo;clear hV hA hPo;simp only[Zm,Zv,ZD,ZN];simp[zg,Act.put];generalize y' 0=y0 at hz0⊢;subst hz0;generalize y' 10=yp at HPo⊢;obtain⟨b3,k3,rfl,hL3⟩:=HPo.out;have HL4:=hid (hL3.trc b3 (j+2) k3);have y11:=(zaT.fn hL3.box).f11;have yff:=hL3.box.free;have ylt:=hL3.box.lt;clear hL3 HPo;go_wp2;go_roundw
            case rel=>
             refine⟨j+1,LU,Y++[LX],D'*kk,9671406556917033397649408*B',S4.trc b3 (j+2) k3,hlt,Yg,?_,HSI.out b3 k3,?_,K3.out,?_,HQ2.out⟩
             ·rw[HCu.out,show(S4.trc b3 (j+2) k3).ax=aR from HS4.out.2.2.2.1];exact HL4.out
             ·unfold Hid;rw[ZB,HYl.out];rfl
             exact EC
            case measure=>simp[intOf];omega
          ·obtain rfl:j=m.layers.length:=Ya;have hq:=HTq.out;rw[Zbu]at hq;have hq':(U,Y)=zav nI m.input (zu nI) [] [] [] m.layers:=hq;have HF:Hid (RR=(⟨nI,U,zaF (zu nI) Y⟩,0)):=by
            have h:=HRd5.out;rw[ZaM,<- hq']at h;exact h.symm
           obtain⟨OX,hOX⟩:∃OX,OX=zaF (zu nI) Y:=⟨_,rfl⟩
           rw[<- hOX]at HF HLw HStp;have hnx:OX.length=S.nx:=HStp.out.nx;have HNx:=hid hnx;have hOl:OX.length<=16384:=UO;have hUl:U.length<=1024:=by
            have h:=HTot.out;rw[<- hq']at h;have h2:(U.length:Int)<=1024:=h;omega
           have hcx:S.nx<=S.cx:=HStp.out.cx;have hLr:=HLw.out.un;have HCe:Hid (∀X,Stp gG wr X->LSt X gG nI U->X.cell? ⟨gL,10,none⟩=some (.slice S.ax S.nx S.cx)/\gL<X.heap.size/\X.cell? ⟨gG,2,none⟩=some (.slice none 0 0)/\gG<X.heap.size):=fun X hs hl=>
            ⟨(zaT.fn (HLw.out.stp hs hl).box).f10,(HLw.out.stp hs hl).box.lt,hl.g2,hl.lt⟩
           obtain⟨HOl,HUl,Hcx⟩:=hd3 hOl hUl hcx;clear hq hq' hOX hnx hOl hUl hcx HTq HRm HQ HStp HSi2 HTot
           go_upto_region 26 with fail
           refine zK 6 Yc Yc Yc Yc Yb (zeb gG nI wr U U 99 [.val (.pointer (some ⟨gG,2,none⟩)),.val (.slice none 0 0),.val (.pointer (some ⟨gL,0,none⟩)),.val (.pointer (some ⟨gL,0,none⟩)),.val (.pointer (some ⟨gL,10,none⟩)),.val (.slice S.ax S.nx S.cx)]) (fun g=>zeb.start YC g) ?_ ?_
           ·intro ops;simp only[Zm,Zv,zbZ]
            refine⟨?v0,?_,?v2,?_,?_,?_,trivial⟩
            case v0|v2=>
             exact O5
            ·intro d y' X hJ hd hW;obtain⟨f10,flt,f2,fgl⟩:=HCe.out X hJ.st hJ.same;simp only[zaa,Region.binds,Zj,Ze,Zi,ZK,ZL]at hW;have h0:d 0=true:=Ye;have J0:=hJ.all 0 h0;simp only[GU,Zc,Zb]at J0;simp[zg,Act.put];generalize hg0:y' 0=y0;rw[hg0]at J0;clear hg0;obtain rfl:=J0;have HJ:=hid hJ;clear hJ hd hW h0;exact Ui
            ·intro d y' X hJ hd hW;exact IC
            ·intro d y' X hJ hd hW;exact ID
            ·intro d y' X hJ hd hW;obtain⟨f10,flt,f2,fgl⟩:=HCe.out X hJ.st hJ.same;simp only[zaa,Region.binds,Zj,Ze,Zi,ZK,ZL]at hW;have h4:d 4=true:=Ye;have J4:=hJ.all 4 h4;simp only[GU,Zc,Zb]at J4;exact IW
           ·intro ops d y' X hA hJ;have J0:=hJ.all 0 (hA 0 Yb);have J1:=hJ.all 1 (hA 1 Yb);have J2:=hJ.all 2 (hA 2 Yb);have J5:=hJ.all 5 (hA 5 Yb);simp only[GU,Zc,Zb]at J0 J1 J2 J5;obtain⟨f10,flt,f2,fgl⟩:=HCe.out X hJ.st hJ.same;obtain⟨HLn,HSn⟩:=hd2 hJ.same hJ.st;clear hJ hA;simp only[Zm,Zv,ZD,ZN];simp[zg,Act.put];generalize y' 0=y0 at J0⊢;obtain rfl:=J0;generalize y' 1=y1 at J1⊢;obtain rfl:=J1;generalize y' 2=y2 at J2⊢;obtain rfl:=J2;generalize y' 5=y5 at J5⊢;obtain rfl:=J5;have HLX:=hid (HLw.out.stp HSn.out HLn.out);obtain⟨news,hsrc,_,hel⟩:=ze8.src zaR HLX.out.cur.at';rw[HNx.out]at hsrc;obtain⟨HSrc,HEl⟩:=hd2 hsrc hel;have hnx1:S.nx<=16384:=by rw[<- HNx.out];exact HOl.out
            clear hsrc hel f10 flt f2 fgl
            go_upto_region 27 with(at_builtin;(refine zZ rfl (.tmp 127) (.tmp 131) 28 28 rfl X.heap.size 53 (.agg #[.slice none 0 0,.bool false,.slice none 0 0,.slice none 0 0]) 4 80 Tryz.underlying28 Tryz.underlying28 Yc rfl Ya (.slice none 0 0) 0 [] rfl (Zar _ _ _ _) S.ax S.nx S.cx news rfl HSrc.out Ya Yh (Za _) ?_;intro v' w5 hown hg hnx;obtain⟨b5,c5,rfl,hc5⟩:=zc4 hown;have hb5:Below X.heap.size X w5:=⟨hg.os,hg.tape,hg.output,hg.size,fun k hk=>hg.block k hk VE⟩;rw[ZO]at hown hc5⊢;rw[ZaP]at hown;have hO:=zi4 hown HNx.out (fun q x hx=>YK) VI;have HB5:=hid hb5;have hbw:Below gG w2 w5:=HLX.out.bl.trans (hb5.mono (Z6 HLX.out.un.lt));have hgw:w.heap.size+1<gG:=Nat.lt_of_lt_of_eq HG2.out.lt HGg.out.symm;have HG5:=hid (HG2.out.belowB hbw hgw);have hfin:=zja (c:=c5) HLX.out.un (by have:=HUl.out;omega) hb5 hO (by have:=HNx.out;omega) HG5.out.al (ZaL hgw);rw[HNx.out]at hfin;have HFin:=hid hfin;have y2:=(HLX.out.un.below hb5).g2;have yff:=(HLX.out.un.below hb5).fz;have ylt:=(HLX.out.un.below hb5).lt;have HBW:=hid hbw;have HGW:=hid hgw;clear hown hg hnx hb5 hO hbw hgw hfin))
            obtain⟨aU,cU,k0,k1,k2,hgr⟩:=HFin.out;have HGr:=hid hgr;have HB6:Hid (Below w.heap.size w (w5.setCell ⟨gG,2,none⟩ (.slice b5 S.nx c5))):=by
             have h1:Below gG w2 (w5.setCell ⟨gG,2,none⟩ (.slice b5 S.nx c5)):=HBW.out.setCell (p:=⟨gG,2,none⟩) (Za _) _;rw[HGg.out]at h1⊢;exact HB2.out.trans (h1.mono HB2.out.size)
            have HG6:Hid (znR w (w5.setCell ⟨gG,2,none⟩ (.slice b5 S.nx c5)) (w.heap.size+1) (.int .i64 0) (.slice none 0 0) (.slice none 0 0)):=HG2.out.belowB (HBW.out.setCell (p:=⟨gG,2,none⟩) (Za _) _) HGW.out;have k3:gG<(w5.setCell ⟨gG,2,none⟩ (.slice b5 S.nx c5)).heap.size:=by simpa using ylt
            clear hgr HFin HG5 HBW y2 yff ylt HB5 HSrc HEl HCe hLr;generalize w5.setCell ⟨gG,2,none⟩ (.slice b5 S.nx c5)=W9 at *;obtain⟨g0,g1,g2,gf,glt,gge,_⟩:=HG6.out;have HPo:Hid (zfl w RR (.returned (.tuple #[.agg #[.int .i64 (nI:Int),.slice aU U.length cU,.slice b5 S.nx c5],.int .i64 0])) (((W9.setCell ⟨w.heap.size+1,0,none⟩ (.int .i64 (nI:Int))).setCell ⟨w.heap.size+1,1,none⟩ (.slice aU U.length cU)).setCell ⟨w.heap.size+1,2,none⟩ (.slice b5 S.nx c5))):=by
             rw[HF.out];exact⟨_,rfl,HGr.out,zdg HB6.out gge _ _ _⟩
            go_wp2
            refine Zr (v:=.tuple #[.agg #[.int .i64 (nI:Int),.slice aU U.length cU,.slice b5 S.nx c5],.int .i64 0]) Y6 rfl ?_
            exact HPo.out
  ·omega
 ·rw[Zh he]at HRd;generalize(zab m).2.2=er at *;generalize(zab m).2.1=ei at *;have t1:(er != 0)=true:=Xa;have HF:=hid HRd.out.symm;obtain⟨g0,g1,g2,gf,glt,gge,_⟩:=HG1.out;clear he hI;go_wp2
  refine Zr (v:=.tuple #[.agg #[.int .i64 0,.slice none 0 0,.slice none 0 0],.int .i64 er]) Y6 rfl ?_
  exact zcv HF.out HB1.out gge
theorem zna(w:World)(v:Nat):Calls Tryz.prog 22 #[.int .i64 (v:Int)] w (zaE w (za4 v)):=by
 obtain⟨HX,HB⟩:=hd2 (zc9.alloc (zaA w) 53) ((Zg w.heap.size w).alloc (Za _) (.cells #[.slice none 0 0,.bool false,.slice none 0 0,.slice none 0 0] 53))
 go_enter Tryz.func22,Tryz.ntmps22
 go_upto_region 1 with fail
 generalize w.alloc (.cells #[.slice none 0 0,.bool false,.slice none 0 0,.slice none 0 0] 53)=W at *;have HO:=hid (zrV W 1 Yb Yb)
 go_wp2_with fail
 refine HO.out.mono ?_
 rintro e w1 ⟨v1,rfl,hv,hb⟩;have hv':RatV w1 v1 (zh 1):=hv;obtain⟨p1,p2,p3,rfl,hrc⟩:=zbA.of hv';obtain⟨HRC,HX1⟩:=hd2 hrc (HX.out.below hb);have HB1:=htr HB hb;obtain⟨an,ad,cn,cd,rfl,rfl,rfl,l1,l2,u1,u2⟩:=hrc.ex;clear hv hv' hb HO u1 u2 hrc;obtain⟨HX2,HB2,HF2⟩:=hd3 (HX1.out.below ((Zg w1.heap.size w1).alloc (Za _) (.cells #[.int .i64 (v:Int),.bool (zh 1).neg,.slice an (zh 1).num.length cn,.slice ad (zh 1).den.length cd] 84))) (HB1.out.trans (((Zg w1.heap.size w1).alloc (Za _) (.cells #[.int .i64 (v:Int),.bool (zh 1).neg,.slice an (zh 1).num.length cn,.slice ad (zh 1).den.length cd] 84)).mono HB1.out.size)) (zj9 (v:=v) (an:=an) (ad:=ad) (cn:=cn) (cd:=cd) (w:=w1.alloc (.cells #[.int .i64 (v:Int),.bool (zh 1).neg,.slice an (zh 1).num.length cn,.slice ad (zh 1).den.length cd] 84)) (b:=some ⟨w1.heap.size,0,none⟩) rfl Yd (by rw[World.cell?_alloc_at _ _ _ _ rfl];rfl) (by rw[World.cell?_alloc_at _ _ _ _ rfl];rfl) (by rw[World.cell?_alloc_at _ _ _ _ rfl];rfl) (by rw[World.cell?_alloc_at _ _ _ _ rfl];rfl) (HRC.out.below ((Zg _ _).alloc (Za _) _)));obtain⟨w2,hw2⟩:∃w2,w2=w1.alloc (.cells #[.int .i64 (v:Int),.bool (zh 1).neg,.slice an (zh 1).num.length cn,.slice ad (zh 1).den.length cd] 84):=⟨_,rfl⟩
 rw[<- hw2]at HX2 HB2 HF2;obtain⟨r0,r1,r2,r3,rf,rlt⟩:=HX2.out.bx;have HO:=hid (HF2.out.val.ret HX2.out.al HB2.out (Za _));obtain⟨x0,x1,x2,x3,xf,xlt⟩:=HX1.out.bx;generalize za4 v=R at *;rw[hw2,zfE xlt]at HO;clear HF2 HRC HX1 HX2 r0 r1 r2 r3 rf rlt;go_wp2;exact Zr (by simp[results,Tryz.results22,go_sem,x0,x1,x2,x3,xlt,ZaL xlt]) rfl HO.out
def eqA(f g:zl):Bool:=decide (f.ts=g.ts/\f.c=g.c)
theorem zcR(f g:zl):eqA f g=true ↔ f=g:=by
 unfold eqA;rw[Zy]
 constructor
 ·rintro⟨h1,h2⟩;cases f;cases g;simp only at h1 h2;subst h1 h2;rfl
 ·rintro rfl;exact⟨rfl,rfl⟩
theorem zju{w:World}{v u:Value}{f g:zl}(hf:zai w v f)(hg:zai w u g):
  Calls Tryz.prog 21 #[v,u] w fun e w'=>e=.returned (.bool (eqA f g))/\Below w.heap.size w w':=by
 obtain⟨a,c,an,ad,cn,cd,rfl,hc,ht,l1,l2,u1,u2⟩:=hf.parts;obtain⟨b,d,bn,bd,dn,dd,rfl,hd,hs,m1,m2,v1,v2⟩:=hg.parts;have q1:=ht.len;have q2:=hs.len;obtain⟨HT,HS⟩:=hd2 ht hs;have HCf:Hid (RatV w (.agg #[.bool (zh f.c).neg,.slice an (zh f.c).num.length cn,.slice ad (zh f.c).den.length cd]) (zh f.c)):=⟨an,ad,cn,cd,rfl,l1,l2,u1,u2⟩
 have HCg:Hid (RatV w (.agg #[.bool (zh g.c).neg,.slice bn (zh g.c).num.length dn,.slice bd (zh g.c).den.length dd]) (zh g.c)):=⟨bn,bd,dn,dd,rfl,m1,m2,v1,v2⟩
 obtain⟨RR,hRR⟩:∃RR,RR=eqA f g:=⟨_,rfl⟩
 have HRR:=hid hRR;rw[<- hRR];have x1:=zbo.alloc w (.slice a f.ts.length c) (.bool (zh f.c).neg) (.slice an (zh f.c).num.length cn) (.slice ad (zh f.c).den.length cd) 53;have b1:=blA w (.cells #[.slice a f.ts.length c,.bool (zh f.c).neg,.slice an (zh f.c).num.length cn,.slice ad (zh f.c).den.length cd] 53);have s1:(w.alloc (.cells #[.slice a f.ts.length c,.bool (zh f.c).neg,.slice an (zh f.c).num.length cn,.slice ad (zh f.c).den.length cd] 53)).heap.size=w.heap.size+1:=Yd;obtain⟨HX1,HB1,HS1⟩:=hd3 x1 b1 s1;clear x1 b1 s1 hRR ht hs l1 l2 u1 u2 m1 m2 v1 v2 hf hg
 go_enter Tryz.func21,Tryz.ntmps21
 go_upto_region 1 with fail
 generalize w.alloc (.cells #[.slice a f.ts.length c,.bool (zh f.c).neg,.slice an (zh f.c).num.length cn,.slice ad (zh f.c).den.length cd] 53)=W1 at *;have x2:=zbo.alloc W1 (.slice b g.ts.length d) (.bool (zh g.c).neg) (.slice bn (zh g.c).num.length dn) (.slice bd (zh g.c).den.length dd) 53;have b2:=blA W1 (.cells #[.slice b g.ts.length d,.bool (zh g.c).neg,.slice bn (zh g.c).num.length dn,.slice bd (zh g.c).den.length dd] 53);rw[HS1.out]at x2;obtain⟨HX1',HX2⟩:=hd2 (HX1.out.below b2) x2;have HB2:=htr HB1 b2;clear HX1 HB1 x2 b2;generalize W1.alloc (.cells #[.slice b g.ts.length d,.bool (zh g.c).neg,.slice bn (zh g.c).num.length dn,.slice bd (zh g.c).den.length dd] 53)=W2 at *;obtain⟨x0,x1,x2,x3,xf,xlt⟩:=HX1'.out;obtain⟨y0,y1,y2,y3,yf,ylt⟩:=HX2.out
 by_cases hl:f.ts.length=g.ts.length
 case neg=>
  have hne:eqA f g=false:=by
   rw[<- Za3,zcR];intro e;exact hl Ue
  have t1:((f.ts.length:Int) != (g.ts.length:Int))=true:=YY;have t2:decide (¬ (f.ts.length:Int)=(g.ts.length:Int))=true:=Yj;have HNe:=hid hne;clear hne hl;go_wp2;go_ret;exact⟨zj (HRR.out.trans HNe.out).symm,HB2.out⟩
 have t1:((f.ts.length:Int) != (g.ts.length:Int))=false:=by rw[hl];simp
 have t2:decide (¬ (f.ts.length:Int)=(g.ts.length:Int))=false:=Yj;obtain⟨HSm,HL⟩:=hd2 (zl2 (HCf.out.below HB2.out) (HCg.out.below HB2.out)) hl;clear hl
 by_cases hcc:f.c=g.c
 case neg=>
  have hsm:decide (zh f.c=zh g.c)=false:=Zo fun e=>hcc XX
  rw[hsm]at HSm;have hne:eqA f g=false:=by
   rw[<- Za3,zcR];intro e;exact hcc Ue
  have HNe:=hid hne;clear hsm hne hcc
  go_wp2_with fail
  refine HSm.out.mono ?_
  rintro e w3 ⟨rfl,hb3⟩;have HB3:=htr HB2 hb3;clear hb3;go_wp2;go_ret;exact⟨zj (HRR.out.trans HNe.out).symm,HB3.out⟩
 have hsm:decide (zh f.c=zh g.c)=true:=Zk (by rw[hcc]);rw[hsm]at HSm;have HCc:=hid hcc;clear hsm hcc
 go_wp2_with fail
 refine HSm.out.mono ?_
 rintro e w3 ⟨rfl,hb3⟩;have HB3:=htr HB2 hb3;obtain⟨HX3,HY3⟩:=hd2 (HX1'.out.below hb3) (HX2.out.below hb3);clear hb3 HSm x0 x1 x2 x3 xf xlt y0 y1 y2 y3 yf ylt t1 t2 HX1' HX2;go_wp2
 go_loopw [5] (fun i wr=>∃j:Nat,j<=f.ts.length/\i=.int .i64 (j:Int)/\Hid (f.ts.take j=g.ts.take j)/\Hid (Below w3.heap.size w3 wr)) (fun i _=>f.ts.length-(intOf i).toNat)
 case atStart=>exact⟨0,Zs _,rfl,XB,Zg _ _⟩
 case round=>
  obtain⟨j,hj,rfl,HTk,HB⟩:=hrel;have HBw:=htr HB3 HB.out;have x0:=(HX3.out.below HB.out).c0;have xlt:=(HX3.out.below HB.out).lt;have y0:=(HY3.out.below HB.out).c0;have ylt:=(HY3.out.below HB.out).lt
  by_cases hlt:j<f.ts.length
  ·have hltm:j<g.ts.length:=by have:=HL.out;omega
   obtain⟨b1,o1,⟨u,p⟩,p0,p1,p2,p3,ha1,hb1,hx,e0,e1,e2,e3,rfl,hrc⟩:=(HT.out.below zbI HBw.out).pick hlt;obtain⟨b2,o2,⟨v,q⟩,q0,q1',q2',q3,ha2,hb2,hy,g0,g1,g2,g3,rfl,hrd⟩:=(HS.out.below zbI HBw.out).pick hltm;simp only at e0 g0 hrc hrd;obtain⟨HXx,HYy,TA,TB⟩:=hd4 hx hy (zaq hx) (zaq hy);have HV1:=hrc.val;have HV2:=hrd.val;obtain⟨an',ad',cn',cd',rfl,rfl,rfl,_⟩:=hrc.ex;obtain⟨bn',bd',dn',dd',rfl,rfl,rfl,_⟩:=hrd.ex;have HC:Hid (∀e,Calls Tryz.prog 24 #[.agg #[.bool (zh p).neg,.slice an' (zh p).num.length cn',.slice ad' (zh p).den.length cd'],.agg #[.bool (zh q).neg,.slice bn' (zh q).num.length dn',.slice bd' (zh q).den.length dd']] (ext wr e) fun e1 w'=>e1=.returned (.bool (decide (zh p=zh q)))/\Below (ext wr e).heap.size (ext wr e) w'):=fun e=>
    zl2 (HV1.below (zG wr e)) (HV2.below (zG wr e))
   have k0:=zF x0 xlt;have k1:=zF y0 ylt;have f0:=zF e0 hb1;have f1:=zF e1 hb1;have f2:=zF e2 hb1;have f3:=zF e3 hb1;have h0:=zF g0 hb2;have h1:=zF g1 hb2;have h2:=zF g2 hb2;have h3:=zF g3 hb2;subst ha1 ha2;clear hx hy HV1 HV2 hrc hrd
   by_cases huv:u=v
   ·have hs1:((u:Int) != (v:Int))=false:=by rw[huv];simp
    have HUV:=hid huv;clear huv
    by_cases hpq:p=q
    ·have hs2:decide (zh p=zh q)=true:=Zk (by rw[hpq]);rw[hs2]at HC;have HPQ:=hid hpq;clear hs2 hpq
     go_upto_region 6 with fail
     refine zy Yc Yc ?_
     repeat (go_big_quiet_step (first|(go_at_call 24;exact Calls.ext_of (HC.out _))))
     refine wpQuiet_nil ?_
     intro _ hw';obtain⟨nq,hw''⟩:=hw';subst hw'';have HBN:=hid (HB.out.trans ((zG wr nq).mono HB.out.size));generalize ext wr nq=w5 at *;go_wp2;go_roundw
     case rel=>exact⟨j+1,hlt,Yg,by unfold Hid;rw[TA.out,TB.out,HTk.out,HUV.out,HPQ.out],HBN.out⟩
     case measure=>simp[intOf];omega
    ·have hs2:decide (zh p=zh q)=false:=Zo fun e=>hpq XX
     rw[hs2]at HC;have hne:Hid (RR=false):=by
      unfold Hid;rw[HRR.out,<- Za3,zcR];rintro rfl;have h1:=HXx.out.symm.trans HYy.out;cases h1;exact hpq rfl
     clear hs2 hpq
     go_upto_region 6 with fail
     refine zy Yc Yc ?_
     repeat (go_big_quiet_step (first|(go_at_call 24;exact Calls.ext_of (HC.out _))))
     refine wpQuiet_nil ?_
     intro _ hw';obtain⟨nq,hw''⟩:=hw';subst hw'';have HBN:=hid (HBw.out.trans ((zG wr nq).mono HBw.out.size));generalize ext wr nq=w5 at *;go_wp2;go_ret;exact⟨zj hne.out.symm,HBN.out⟩
   ·have hs1:((u:Int) != (v:Int))=true:=YY;have hne:Hid (RR=false):=by
     unfold Hid;rw[HRR.out,<- Za3,zcR];rintro rfl;have h1:=HXx.out.symm.trans HYy.out;cases h1;exact huv rfl
    clear huv
    go_upto_region 6 with fail
    refine zy Yc Yc ?_
    repeat (go_big_quiet_step (first|(go_at_call 24;exact Calls.ext_of (HC.out _))))
    refine wpQuiet_nil ?_
    intro _ hw';obtain⟨nq,hw''⟩:=hw';subst hw'';have HBN:=hid (HBw.out.trans ((zG wr nq).mono HBw.out.size));generalize ext wr nq=w5 at *;go_wp2;go_ret;exact⟨zj hne.out.symm,HBN.out⟩
  ·obtain rfl:j=f.ts.length:=Ya;have he2:Hid (RR=true):=by
    have h1:=HTk.out;rw[Z3,HL.out,Z3]at h1;unfold Hid;rw[HRR.out,zcR];cases f;cases g;simp only at h1;have h2:=HCc.out;simp only at h2;rw[h1,h2]
   go_wp2;go_ret;exact⟨zj he2.out.symm,HBw.out⟩
def zlc(A B:List zl):Bool:=A.length==B.length && (List.range A.length).all fun k=>eqA (A.getD k zbq) (B.getD k zbq)
theorem zdG(A B:List zl):zlc A B=true ↔ A=B:=by
 unfold zlc;simp only[Zw,ZaC,Zap,Z5]
 constructor
 ·rintro⟨h1,h2⟩
  refine List.ext_getElem h1 fun k k1 k2=>?_
  have h:=(zcR _ _).1 (h2 k k1);rw[Zf,Zf,Zn k1,Zn k2]at h;exact h
 ·rintro rfl;exact⟨rfl,fun k _=>(zcR _ _).2 rfl⟩
theorem zhi{w:World}{a b:Option Addr}{A B:List zl}(c d:Nat)(h:zaN w a A)(g:zaN w b B):
  Calls Tryz.prog 20 #[.slice a A.length c,.slice b B.length d] w fun e w'=>e=.returned (.bool (zlc A B))/\Below w.heap.size w w':=by
 have hl:=h.len;have hm:=g.len;obtain⟨HA,HG⟩:=hd2 h g;clear h g;obtain⟨RR,hRR⟩:∃RR,RR=zlc A B:=⟨_,rfl⟩
 have HRR:=hid hRR;rw[<- hRR];clear hRR
 by_cases he:A.length=B.length
 ·have HE:=hid he;have hlb:decide (¬ (A.length:Int)=(B.length:Int))=false:=Yj;have hlc:((A.length:Int)==(B.length:Int))=true:=Yj;have hld:((A.length:Int) != (B.length:Int))=false:=VW;have hge1:A.length<=B.length:=Ya;have hge2:B.length<=A.length:=Ya
  go_enter Tryz.func20,Tryz.ntmps20
  clear he;go_wp2
  go_loopw [5] (fun i wr=>∃j:Nat,j<=A.length/\i=.int .i64 (j:Int)/\Hid (A.take j=B.take j)/\Hid (Below w.heap.size w wr)) (fun i _=>A.length-(intOf i).toNat)
  case atStart=>exact⟨0,Zs _,rfl,XB,Zg _ _⟩
  case round=>
   obtain⟨j,hj,rfl,HT,HB⟩:=hrel
   by_cases hlt:j<A.length
   ·have hltm:j<B.length:=Ya;obtain⟨b1,o1,x,p0,p1,p2,p3,rfl,hb1,hx,e0,e1,e2,e3,hxv⟩:=(HA.out.below zaR HB.out).pick hlt;obtain⟨b2,o2,y,q0,q1,q2,q3,rfl,hb2,hy,g0,g1,g2,g3,hyv⟩:=(HG.out.below zaR HB.out).pick hltm;obtain⟨xa,xn,xc,xb,xan,xnn,xcn,xad,xnd,xcd,rfl,rfl,rfl,rfl⟩:=hxv.spell;obtain⟨ya,yn,yc,yb,yan,ynn,ycn,yad,ynd,ycd,rfl,rfl,rfl,rfl⟩:=hyv.spell;obtain⟨HXx,HYy,TA,TB⟩:=hd4 hx hy (zaq hx) (zaq hy);have f0:=zF e0 hb1;have f1:=zF e1 hb1;have f2:=zF e2 hb1;have f3:=zF e3 hb1;have h0:=zF g0 hb2;have h1:=zF g1 hb2;have h2:=zF g2 hb2;have h3:=zF g3 hb2;have HC:Hid (∀e,Calls Tryz.prog 21 #[.agg #[.slice xa xn xc,.bool xb,.slice xan xnn xcn,.slice xad xnd xcd],.agg #[.slice ya yn yc,.bool yb,.slice yan ynn ycn,.slice yad ynd ycd]] (ext wr e) fun e1 w'=>e1=.returned (.bool (eqA x y))/\Below (ext wr e).heap.size (ext wr e) w'):=fun e=>
     zju (hxv.val.below (zG wr e)) (hyv.val.below (zG wr e))
    clear hx hy hxv hyv e0 e1 e2 e3 g0 g1 g2 g3
    by_cases hxy:x=y
    ·have hs:eqA x y=true:=(zcR _ _).2 hxy;rw[hs]at HC;have HXY:=hid hxy;clear hxy hs;go_wp2
     refine zy Yc Yc ?_
     repeat (go_big_quiet_step (first|(go_at_call 21;exact Calls.ext_of (HC.out _))))
     refine wpQuiet_nil ?_
     intro _ hw';obtain⟨nq,hw''⟩:=hw';subst hw'';have HBN:=hid (HB.out.trans ((zG wr nq).mono HB.out.size));generalize ext wr nq=w5 at *;go_wp2;go_roundw
     case rel=>exact⟨j+1,hlt,Yg,KY,HBN.out⟩
     case measure=>simp[intOf];omega
    ·have hs:eqA x y=false:=by rw[<- Za3,zcR];exact hxy
     rw[hs]at HC;have hne:Hid (RR=false):=by
      unfold Hid;rw[HRR.out,<- Za3,zdG];rintro rfl;have h1:=HXx.out.symm.trans HYy.out;cases h1;exact hxy rfl
     clear hxy hs;go_wp2
     refine zy Yc Yc ?_
     repeat (go_big_quiet_step (first|(go_at_call 21;exact Calls.ext_of (HC.out _))))
     refine wpQuiet_nil ?_
     intro _ hw';obtain⟨nq,hw''⟩:=hw';subst hw'';have HBN:=hid (HB.out.trans ((zG wr nq).mono HB.out.size));generalize ext wr nq=w5 at *;go_wp2;go_ret;exact⟨zj hne.out.symm,HBN.out⟩
   ·obtain rfl:j=A.length:=Ya;have he2:Hid (RR=true):=by
     have h1:=HT.out;rw[Z3,HE.out,Z3]at h1;unfold Hid;rw[HRR.out,zdG];exact h1
    go_wp2;go_ret;exact⟨zj he2.out.symm,HB.out⟩
 ·have hlb:decide (¬ (A.length:Int)=(B.length:Int))=true:=Yj;have hld:((A.length:Int) != (B.length:Int))=true:=YY;have hne:Hid (RR=false):=by
   unfold Hid;rw[HRR.out,<- Za3,zdG];rintro rfl;exact he rfl
  go_enter Tryz.func20,Tryz.ntmps20
  clear he;go_wp2;go_ret;exact⟨zj hne.out.symm,Zg _ _⟩
abbrev zpW(w:World)(base:Nat)(v:Value)(L:List (Nat×Rat)):Prop:=zdC zd9 noI 84 w base v L
def zps(w:World)(base:Nat)(v:Value)(L:List (Nat×Rat))(e:Ending)(w':World):Prop:=∃a c,e=.returned (.slice a L.length c)/\zpW w' base (.slice a L.length c) L/\w.grownBy w' v.ownBlock/\ziB w v (.slice a L.length c)
theorem zgV{w w':World}{row:Option Nat}(hb:Below w.heap.size w w'):w.grownBy w' row:=⟨hb.os,hb.tape,hb.output,hb.size,fun k hk _=>hb.block k hk⟩
theorem zjn{w W w':World}{v:Value}(hb:Below w.heap.size w W)(hg:W.grownBy w' v.ownBlock):w.grownBy w' v.ownBlock:=
 ⟨hg.os.trans hb.os,hg.tape.trans hb.tape,hg.output.trans hb.output,Zl hb.size hg.size,fun k hk hr=>(hg.block k (Zd hk hb.size) hr).trans (hb.block k hk)⟩
theorem zlf{w W w4:World}{base n c:Nat}{a b4:Option Addr}{k4 v:Nat}{L:List (Nat×Rat)}{q:Rat}(he:L++za7 v q=L++[(v,q)])(hn:L.length=n)(hb:Below w.heap.size w W)(ho:zpW w4 base (.slice b4 (n+1) k4) (L++[(v,q)]))(hg:W.grownBy w4 (Value.slice a n c).ownBlock)(hx:ziB W (.slice a n c) (.slice b4 (n+1) k4)):
  zps w base (.slice a n c) (L++za7 v q) (.returned (.slice b4 (n+1) k4)) w4:=by
 rw[he];have hl:(L++[(v,q)]).length=n+1:=by simp[hn]
 refine⟨b4,k4,by rw[hl],by rw[hl];exact ho,zjn hb hg,?_⟩
 rw[hl];exact hx.imp id (fun⟨g,e,h⟩=>⟨g,e,Zl hb.size h⟩)
theorem zcx{w:World}{base n v:Nat}{a:Option Addr}{c:Nat}{p1 p2 p3:Value}{L:List (Nat×Rat)}{q:Rat}(hown:zpW w base (.slice a n c) L)(hn:L.length=n)(hbase:base<=w.heap.size)
 (hq:zbA w p1 p2 p3 q)(hql:zaf (zh q) 1048576)(hnb:n<=1000000):
  Calls Tryz.prog 81 #[.slice a n c,.agg #[.int .i64 (v:Int),p1,p2,p3]] w (zps w base (.slice a n c) (L++za7 v q)):=by
 have hV:=hq.val;have hql1:=hql.num;have b1:=blA w (.cells #[.int .i64 (v:Int),p1,p2,p3] 84);obtain⟨HX,HB,HOw,HRC,HN,HSg⟩:=hd6 (zbo.alloc w (.int .i64 (v:Int)) p1 p2 p3 84) b1 (hown.below zbI b1) (hq.below b1) hn (zq0 (hV.below b1) Ya);have hb1:base<=(w.alloc (.cells #[.int .i64 (v:Int),p1,p2,p3] 84)).heap.size:=Zl hbase b1.size;obtain⟨an,ad,cn,cd,rfl,rfl,rfl,_⟩:=hq.ex;rw[zax]at HSg;clear hown hV b1 hq
 go_enter Tryz.func81,Tryz.ntmps81
 go_upto_region 1 with fail
 generalize w.alloc (.cells #[.int .i64 (v:Int),.bool (zh q).neg,.slice an (zh q).num.length cn,.slice ad (zh q).den.length cd] 84)=W at *;obtain⟨x0,x1,x2,x3,xf,xlt⟩:=HX.out
 go_wp2_with fail
 refine HSg.out.mono ?_
 rintro e w1 ⟨rfl,hb⟩;have HX1:=hid (HX.out.below hb);have HB1:=htr HB hb;obtain⟨HOw1,HRC1⟩:=hd2 (HOw.out.below zbI hb) (HRC.out.below hb);have hb2:=Zl hb1 hb.size;clear hb HSg HX HB HOw HRC x0 x1 x2 x3 xf xlt
 by_cases hz:q=0
 ·have hs:zic q=0:=zfk.2 hz;rw[hs];have e1:za7 v q=[]:=by unfold za7;rw[Zq hz]
  have HE:Hid (L++za7 v q=L):=by unfold Hid;rw[e1,ZaX]
  clear hz hs e1;go_wp2
  refine Zr (v:=.slice a n c) JU rfl ?_
  rw[HE.out];subst hn;exact⟨a,c,rfl,HOw1.out,zgV HB1.out,.inl rfl⟩
 ·have hs:(zic q==0)=false:=by rw[Z7];exact fun e=>hz (zfk.1 e)
  have hs2:decide (zic q=0)=false:=Zo fun e=>hz (zfk.1 e)
  have HE:Hid (L++za7 v q=L++[(v,q)]):=by unfold Hid za7;rw[Zh hz]
  generalize zic q=sg at *;clear hz;obtain⟨x0,x1,x2,x3,xf,xlt⟩:=HX1.out;have hal:=blA w1 (.cells #[.int .i64 (v:Int),.bool (zh q).neg,.slice an (zh q).num.length cn,.slice ad (zh q).den.length cd] 84);obtain⟨HRow,HOw2⟩:=hd2 (zdp.alloc zbI (show zd9 w1 (.int .i64 (v:Int)) (.bool (zh q).neg) (.slice an (zh q).num.length cn) (.slice ad (zh q).den.length cd) (v,q)from⟨rfl,HRC1.out⟩) 84) (HOw1.out.below zbI hal);have HB2:=htr HB1 hal;have hb3:=Zl hb2 hal.size;clear hal
  go_wp2_with (at_builtin;refine zew (T:=84) zbI (.int .i64 0) (.bool false) (.slice none 0 0) (.slice none 0 0) 64 X4 rfl (.tmp 10) (.tmp 12) 47 rfl base Tryz.underlying47 Yc Ya (.slice a n c) n L HN.out rfl HOw2.out _ (v,q) HRow.out rfl Ya hb3 ?_;intro b4 k4 w4 hown4 hk4 hg4 hbe4 hnx4;have HPo:=hid (zlf (L:=L) HE.out HN.out HB2.out hown4 hg4 hnx4);clear hown4 hg4 hbe4 hnx4)
  exact Zr (v:=.slice b4 (n+1) k4) JU rfl HPo.out
theorem zgM(v:Nat)(q:Rat):(za7 v q).length<=1:=by unfold za7;split<;>simp
theorem zhC:∀(l:List (Nat×Rat)) (v:Nat) (q:Rat),(zef l v q).length<=l.length+1
 | [],v,q=>zgM v q
 | (u,p)::r,v,q=>by
  show(if u=v then za7 v (p+q)++r else if v<u then za7 v q++(u,p)::r else(u,p)::zef r v q).length<=_
  have h1:=zgM v (p+q);have h2:=zgM v q;have h3:=zhC r v q
  split
  ·simp only[ZB,ZJ];omega
  ·split
   ·simp only[ZB,ZJ];omega
   ·simp only[ZJ];omega
theorem ziZ:∀{a b:List (Nat×Rat)} {v:Nat} {q:Rat},(∃t∈a,v<=t.1)->zef (a++b) v q=zef a v q++b
 | [],_,_,_,h=>by obtain⟨t,ht,_⟩:=h;cases ht
 | (u,p)::r,b,v,q,h=>by
  show(if u=v then za7 v (p+q)++(r++b)else if v<u then za7 v q++(u,p)::(r++b)else(u,p)::zef (r++b) v q)=(if u=v then za7 v (p+q)++r else if v<u then za7 v q++(u,p)::r else(u,p)::zef r v q)++b
  split
  ·rw[Z9]
  ·split
   ·rw[Z9];rfl
   ·rename_i h1 h2
    obtain⟨t,ht,hv⟩:=h;rw[ziZ ⟨t,?_,hv⟩];rfl
    rcases Zbd.1 ht with e|e
    ·subst e;simp only at hv;omega
    ·exact e
theorem zqX{l:List (Nat×Rat)}:∀{lo:Nat},zbv l lo->∀(j k:Nat) (s t:Nat×Rat),j<k->l[j]? =some s->l[k]? =some t->s.1<t.1:=by
 induction l with
 | nil=>intro lo _ j k s t _ h;simp at h
 | cons a r ih=>
  intro lo h j k s t hjk hs ht;obtain⟨u,p⟩:=a;obtain⟨h1,h2,h3⟩:=h
  cases k with
  | zero=>omega
  | succ k=>
   rw[Zb]at ht
   cases j with
   | zero=>
    cases hs;have:=(zeW h3 (Zt ht)).1;show u<t.1
    omega
   | succ j=>
    rw[Zb]at hs;exact ih h3 j k s t Ya hs ht
def PlI(F:List (Nat×Rat))(v:Nat)(q:Rat)(j:Nat)(L:List (Nat×Rat))(dn:Bool):Prop:=(dn=false/\L=F.take j/\zqY (F.take j) v)∨(dn=true/\L=zef (F.take j) v q/\∃t∈F.take j,v<=t.1)
section
variable {F:List (Nat×Rat)} {v:Nat} {q:Rat} {j:Nat} {L:List (Nat×Rat)} {u:Nat} {p:Rat}
theorem PlI.len{dn:Bool}(h:PlI F v q j L dn):L.length<=j+1:=by
 rcases h with⟨_,rfl,_⟩|⟨_,rfl,_⟩
 ·rw[ZZ];omega
 ·have:=zhC (F.take j) v q;rw[ZZ]at this;omega
theorem zaZ{α:Type}{F:List α}{j:Nat}{x:α}(h:F[j]? =some x):F.take (j+1)=F.take j++[x]:=by rw[Zat,h];rfl
theorem zpn:∀{l:List (Nat×Rat)} {lo:Nat} {t:Nat×Rat},zbv l lo->t∈l->t.2≠0
 | [],_,_,_,h=>by cases h
 | (u,p)::r,lo,t,⟨_,h2,h3⟩,h=>by
  rcases Zbd.1 h with rfl|h
  ·exact h2
  ·exact zpn h3 h
theorem zfd(hc:zbv F 0)(h:F[j]? =some (u,p)):za7 u p=[(u,p)]:=by
 unfold za7;rw[Zh (zpn hc (Zt h))]
theorem PlI.eq(h:PlI F v q j L false)(hx:F[j]? =some (v,p)):PlI F v q (j+1) (L++za7 v (p+q)) true:=by
 rcases h with⟨_,rfl,hl⟩|⟨h,_⟩
 ·refine .inr ⟨rfl,?_,(v,p),?_,Za _⟩
  ·rw[zaZ hx,show([(v,p)]:List (Nat×Rat))=(v,p)::[]from rfl,zqd hl,ZaX]
  ·rw[zaZ hx];simp
 ·cases h
theorem PlI.gt(h:PlI F v q j L false)(hc:zbv F 0)(hx:F[j]? =some (u,p))(hu:v<u):PlI F v q (j+1) ((L++za7 v q)++za7 u p) true:=by
 rcases h with⟨_,rfl,hl⟩|⟨h,_⟩
 ·refine .inr ⟨rfl,?_,(u,p),?_,Z6 hu⟩
  ·rw[zaZ hx,show([(u,p)]:List (Nat×Rat))=(u,p)::[]from rfl,zqa hl hu,zfd hc hx]
  ·rw[zaZ hx];simp
 ·cases h
theorem PlI.lt(h:PlI F v q j L false)(hc:zbv F 0)(hx:F[j]? =some (u,p))(hu:u<v):PlI F v q (j+1) (L++za7 u p) false:=by
 rcases h with⟨_,rfl,hl⟩|⟨h,_⟩
 ·refine .inl ⟨rfl,?_,?_⟩
  ·rw[zaZ hx,zfd hc hx]
  ·rw[zaZ hx];intro t ht
   rcases Zay.1 ht with ht|ht
   ·exact hl t ht
   ·rw[List.mem_singleton]at ht;rw[ht];exact hu
 ·cases h
theorem PlI.dn(h:PlI F v q j L true)(hc:zbv F 0)(hx:F[j]? =some (u,p)):v<u/\PlI F v q (j+1) (L++za7 u p) true:=by
 rcases h with⟨h,_⟩|⟨_,rfl,t,ht,hv⟩
 ·cases h
 ·obtain⟨i,hi⟩:=ZaY ht;have hlt:=(Zu.1 hi).1;rw[ZZ]at hlt;rw[ZaU Ya]at hi;have h2:=zqX hc i j t (u,p) Ya hi hx
  refine⟨ZaG hv h2,.inr ⟨rfl,?_,t,?_,hv⟩⟩
  ·rw[zaZ hx,ziZ ⟨t,ht,hv⟩,zfd hc hx]
  ·rw[zaZ hx];exact Zbt _ ht
end
structure PlB (w W:World) (F:List (Nat×Rat)) (k v q:Rat) (a an ad:Option Addr) (n c nn cn nd cd:Nat) (b:Bool) (qb:Bool) (qn qd:Option Addr) (qnn qcn qnd qcd:Nat):Prop where
 fb:zbo W w.heap.size (.slice a n c) (.bool b) (.slice an nn cn) (.slice ad nd cd)
 cb:zbn W (w.heap.size+1) (.bool qb) (.slice qn qnn qcn) (.slice qd qnd qcd)
 rb:zbo W (w.heap.size+2) (.slice none 0 0) (.bool false) (.slice none 0 0) (.slice none 0 0)
 ra:zbt zb5 W (w.heap.size+2)
 tm:z8 W a F
 kc:zbA W (.bool b) (.slice an nn cn) (.slice ad nd cd) k
 qv:RatV W (.agg #[.bool qb,.slice qn qnn qcn,.slice qd qnd qcd]) (zh q)
 bl:Below w.heap.size w W
theorem PlB.below{w W W':World}{F:List (Nat×Rat)}{k v q:Rat}{a an ad:Option Addr}{n c nn cn nd cd:Nat}{b qb:Bool}{qn qd:Option Addr}{qnn qcn qnd qcd:Nat}(h:PlB w W F k v q a an ad n c nn cn nd cd b qb qn qd qnn qcn qnd qcd)(hb:Below W.heap.size W W'):PlB w W' F k v q a an ad n c nn cn nd cd b qb qn qd qnn qcn qnd qcd:=
 ⟨h.fb.below hb,h.cb.below hb,h.rb.below hb,h.ra.below hb h.rb.lt,h.tm.below zbI hb,h.kc.below hb,h.qv.below hb,h.bl.trans (hb.mono h.bl.size)⟩
theorem zrz{w:World}{vf vq:Value}{f:zl}{v:Nat}{q:Rat}(hf:zai w vf f)(hq:RatV w vq (zh q))(hcan:f.Can)(hfb:∀t∈f.ts,zaf (zh t.2) 524286)(hql:zaf (zh q) 524286)(hs:∀p,(v,p)∈f.ts->zaf (zh (p+q)) 1048576)(few:f.ts.length<=500000):
  Calls Tryz.prog 79 #[vf,.int .i64 (v:Int),vq] w (zaE w ⟨zef f.ts v q,f.c⟩):=by
 obtain⟨a,c,an,ad,cn,cd,rfl,hc,ht,l1,l2,u1,u2⟩:=hf.parts;obtain⟨qn,qd,qcn,qcd,rfl,m1,m2,v1,v2⟩:=hq.ex;obtain⟨HCan,HFb,HQl,HSm⟩:=hd4 (show zbv f.ts 0 from hcan) hfb hql hs;obtain⟨RR,hRR⟩:∃RR:zl,RR=⟨zef f.ts v q,f.c⟩:=⟨_,rfl⟩
 have HRR:=hid hRR;rw[<- hRR];have b1:=blA w (.cells #[.slice a f.ts.length c,.bool (zh f.c).neg,.slice an (zh f.c).num.length cn,.slice ad (zh f.c).den.length cd] 53);have s1:(w.alloc (.cells #[.slice a f.ts.length c,.bool (zh f.c).neg,.slice an (zh f.c).num.length cn,.slice ad (zh f.c).den.length cd] 53)).heap.size=w.heap.size+1:=Yd;have x1:=zbo.alloc w (.slice a f.ts.length c) (.bool (zh f.c).neg) (.slice an (zh f.c).num.length cn) (.slice ad (zh f.c).den.length cd) 53;obtain⟨W1,hW1⟩:∃W1,W1=w.alloc (.cells #[.slice a f.ts.length c,.bool (zh f.c).neg,.slice an (zh f.c).num.length cn,.slice ad (zh f.c).den.length cd] 53):=⟨_,rfl⟩
 rw[<- hW1]at b1 s1 x1;have b2:=blA W1 (.cells #[.bool (zh q).neg,.slice qn (zh q).num.length qcn,.slice qd (zh q).den.length qcd] 51);have s2:(W1.alloc (.cells #[.bool (zh q).neg,.slice qn (zh q).num.length qcn,.slice qd (zh q).den.length qcd] 51)).heap.size=w.heap.size+2:=by simp[s1]
 have x2:=zbn.alloc W1 (.bool (zh q).neg) (.slice qn (zh q).num.length qcn) (.slice qd (zh q).den.length qcd) 51;rw[s1]at x2;obtain⟨W2,hW2⟩:∃W2,W2=W1.alloc (.cells #[.bool (zh q).neg,.slice qn (zh q).num.length qcn,.slice qd (zh q).den.length qcd] 51):=⟨_,rfl⟩
 rw[<- hW2]at b2 s2 x2;have b3:=blA W2 (.cells #[.slice none 0 0,.bool false,.slice none 0 0,.slice none 0 0] 53);have x3:=zc9.alloc (zaA W2) 53;rw[s2]at x3;obtain⟨W3,hW3⟩:∃W3,W3=W2.alloc (.cells #[.slice none 0 0,.bool false,.slice none 0 0,.slice none 0 0] 53):=⟨_,rfl⟩
 rw[<- hW3]at b3 x3;have b23:=b2.trans (b3.mono b2.size);have b13:=b1.trans (b23.mono b1.size);have HP:Hid (PlB w W3 f.ts f.c 0 q a an ad f.ts.length c (zh f.c).num.length cn (zh f.c).den.length cd (zh f.c).neg (zh q).neg qn qd (zh q).num.length qcn (zh q).den.length qcd):=
  ⟨x1.below b23,x2.below b3,x3.bx,x3.al,ht.below zbI b13,zbA.below ⟨an,ad,cn,cd,rfl,rfl,rfl,l1,l2,u1,u2⟩ b13,hq.below b13,b13⟩
 have HW:Hid (W3=((w.alloc (.cells #[.slice a f.ts.length c,.bool (zh f.c).neg,.slice an (zh f.c).num.length cn,.slice ad (zh f.c).den.length cd] 53)).alloc (.cells #[.bool (zh q).neg,.slice qn (zh q).num.length qcn,.slice qd (zh q).den.length qcd] 51)).alloc (.cells #[.slice none 0 0,.bool false,.slice none 0 0,.slice none 0 0] 53)):=by unfold Hid;rw[hW3,hW2,hW1]
 clear x1 x2 x3 b1 b2 b3 s1 s2 b23 b13 hW1 hW2 hW3 hf hq ht u1 u2 v1 v2 hfb hql hs hcan hRR l1 l2 m1 m2
 go_enter Tryz.func79,Tryz.ntmps79
 go_upto_region 1 with fail
 rw[<- HW.out];clear HW;go_wp2
 go_loopw [7,8,9] (fun o d i wr=>∃(j:Nat) (L:List (Nat×Rat)) (dn:Bool) (aO:Option Addr) (cO:Nat),j<=f.ts.length/\o=.slice aO L.length cO/\d=.bool dn/\i=.int .i64 (j:Int)/\Hid (PlI f.ts v q j L dn)/\Hid (zpW wr W3.heap.size (.slice aO L.length cO) L)/\Hid (Below W3.heap.size W3 wr)) (fun _ _ i _=>f.ts.length-(intOf i).toNat)
 case atStart=>exact⟨0,[],false,none,0,Zs _,rfl,rfl,rfl,.inl ⟨rfl,rfl,(by intro t ht;cases ht)⟩,zdC.nil _ _,Zg _ _⟩
 case round=>
  obtain⟨j,L,dn,aO,cO,hj,rfl,rfl,rfl,HI,HOw,HB⟩:=hrel;have HPr:=hid (HP.out.below HB.out);have hLl:L.length<=500001:=by have:=HI.out.len;omega
  obtain⟨nL,hnL⟩:∃nL,nL=L.length:=⟨_,rfl⟩
  rw[<- hnL]at HOw hLl⊢;have HNL:=hid hnL.symm;clear hnL
  by_cases hlt:j<f.ts.length
  ·obtain⟨bF,oF,⟨u,p⟩,p0,p1,p2,p3,haF,hbF,hx,e0,e1,e2,e3,rfl,hrc⟩:=HPr.out.tm.pick hlt;simp only at e0 hrc;have HRc:=hid hrc;obtain⟨an',ad',cn',cd',rfl,rfl,rfl,_⟩:=hrc.ex;have hal:=blA wr (.cells #[.int .i64 (u:Int),.bool (zh p).neg,.slice an' (zh p).num.length cn',.slice ad' (zh p).den.length cd'] 84);obtain⟨HT,HTn,HPj,HRj,HOwj⟩:=hd5 (zbo.alloc wr (.int .i64 (u:Int)) (.bool (zh p).neg) (.slice an' (zh p).num.length cn') (.slice ad' (zh p).den.length cd') 84) (zV.alloc wr #[.int .i64 (u:Int),.bool (zh p).neg,.slice an' (zh p).num.length cn',.slice ad' (zh p).den.length cd'] 84 Yd) (HPr.out.below hal) (HRc.out.below hal) (HOw.out.below zbI hal);have HBj:=htr HB hal;have HOt:Hid ((Value.slice aO nL cO).ownBlock≠some wr.heap.size):=fun e=>by have:=(HOw.out.lt e).2;omega
   have HGe:Hid (W3.heap.size<=wr.heap.size):=HB.out.size;have HXx:=hid hx;have hpl:=HFb.out (u,p) (Zt hx);have HPl:=hid hpl;obtain⟨x0,x1,x2,x3,xf,xlt⟩:=HPr.out.fb;subst haF;clear hx hrc hal hpl HRc HOw HPr
   go_upto_region 7 with fail
   generalize wr.alloc (.cells #[.int .i64 (u:Int),.bool (zh p).neg,.slice an' (zh p).num.length cn',.slice ad' (zh p).den.length cd'] 84)=wj at *;clear x0 x1 x2 x3 xf xlt e0 e1 e2 e3;have hbj:W3.heap.size<=wj.heap.size:=HBj.out.size;have HRl:Hid (zaf (zh p) 1048576):=HPl.out.mono Yb;obtain⟨t0,t1,t2,t3,tf,tlt⟩:=HT.out;cases dn
   case false=>
    by_cases huv:u=v
    ·have k1:((u:Int)==(v:Int))=true:=by rw[huv];simp
     have k2:decide ((u:Int)=(v:Int))=true:=by rw[huv];simp
     have HUV:=hid huv;have HI1:Hid (PlI f.ts v q (j+1) (L++za7 u (p+q)) true):=by rw[huv];exact HI.out.eq (by rw[<- huv];exact HXx.out)
     have HAd:Hid (Calls Tryz.prog 78 #[.agg #[.bool (zh p).neg,.slice an' (zh p).num.length cn',.slice ad' (zh p).den.length cd'],.agg #[.bool (zh q).neg,.slice qn (zh q).num.length qcn,.slice qd (zh q).den.length qcd]] wj (zey wj (zh (p+q)))):=by
      have h:=zrO HRj.out.val HPj.out.qv HPl.out HQl.out;exact Ty
     have HSq:Hid (zaf (zh (p+q)) 1048576):=HSm.out p (by rw[<- huv];exact Zt HXx.out);obtain⟨z0,z1,z2,zf,zlt⟩:=HPj.out.cb;clear huv
     go_wp2_with fail
     refine HAd.out.mono ?_
     rintro e w5 ⟨v5,rfl,hv5,hb5⟩;obtain⟨r1,r2,r3,rfl,hrc5⟩:=zbA.of hv5;have HRc5:=hid hrc5;obtain⟨bn',bd',dn',dd',rfl,rfl,rfl,_⟩:=hrc5.ex;obtain⟨HT5,HN5,HOw5⟩:=hd3 (HT.out.below hb5) (HTn.out.below hb5 HT.out.lt) (HOwj.out.below zbI hb5);have HB5:=htr HBj hb5;clear hv5 hb5 hrc5 HAd t0 t1 t2 t3 tf tlt z0 z1 z2 zf zlt;obtain⟨t0,t1,t2,t3,tf,tlt⟩:=HT5.out;have n1:=HN5.out.setCell 1 (.bool (zh (p+q)).neg) Yd;have n2:=n1.setCell 2 (.slice bn' (zh (p+q)).num.length dn') Yd;obtain⟨HOwZ,HRcZ,HBz⟩:=hd3 (zM (zM (zM HOw5.out HN5.out HOt.out 1 (.bool (zh (p+q)).neg)) n1 HOt.out 2 (.slice bn' (zh (p+q)).num.length dn')) n2 HOt.out 3 (.slice bd' (zh (p+q)).den.length dd')) (((HRc5.out.setCell HN5.out 1 (.bool (zh (p+q)).neg)).setCell n1 2 (.slice bn' (zh (p+q)).num.length dn')).setCell n2 3 (.slice bd' (zh (p+q)).den.length dd')) (((HB5.out.setCell (p:=⟨wr.heap.size,1,none⟩) HGe.out (.bool (zh (p+q)).neg)).setCell (p:=⟨wr.heap.size,2,none⟩) HGe.out (.slice bn' (zh (p+q)).num.length dn')).setCell (p:=⟨wr.heap.size,3,none⟩) HGe.out (.slice bd' (zh (p+q)).den.length dd'));have HNz:=hid (zcx (v:=u) HOwZ.out HNL.out HBz.out.size HRcZ.out HSq.out Ya);clear n1 n2
     go_wp2_with fail
     refine HNz.out.mono ?_
     rintro e w9 ⟨a9,c9,rfl,ho9,hg9,_⟩;obtain⟨n9,hn9⟩:∃n9,n9=(L++za7 u (p+q)).length:=⟨_,rfl⟩
     rw[<- hn9]at ho9⊢;obtain⟨HN9,HO9,HB9⟩:=hd3 hn9 ho9 ((HBz.out).grown hg9 (HBz.out).size (fun k hk=>(HOwZ.out.lt hk).1));clear ho9 hg9 hn9 HNz;go_wp2;go_roundw
     case rel=>exact⟨j+1,L++za7 u (p+q),true,a9,c9,hlt,VZ,rfl,Yg,HI1.out,XY,HB9.out⟩
     case measure=>simp[intOf];omega
    ·have k1:((u:Int)==(v:Int))=false:=bn0 Ya;have k2:decide ((u:Int)=(v:Int))=false:=Zo Ya
     by_cases hgt:v<u
     ·have k3:decide ((v:Int)<(u:Int))=true:=Zk Ya;have k4:(v:Int)<(u:Int):=Ya;have k5:decide (v<u)=true:=Zk hgt;have HI1:=hid (HI.out.gt HCan.out HXx.out hgt);have HCn:Hid (Calls Tryz.prog 45 #[.agg #[.bool (zh q).neg,.slice qn (zh q).num.length qcn,.slice qd (zh q).den.length qcd]] wj (zey wj (zh q))):=by
       have h:=zjX HPj.out.qv (HQl.out.mono Yb);rw[zcz,zax]at h;exact h
      obtain⟨z0,z1,z2,zf,zlt⟩:=HPj.out.cb;clear hgt huv
      go_wp2_with fail
      refine HCn.out.mono ?_
      rintro e w5 ⟨v5,rfl,hv5,hb5⟩;obtain⟨r1,r2,r3,rfl,hrc5⟩:=zbA.of hv5;obtain⟨HT5,HR5,HOw5⟩:=hd3 (HT.out.below hb5) (HRj.out.below hb5) (HOwj.out.below zbI hb5);have HB5:=htr HBj hb5;have HN1:=hid (zcx (v:=v) HOw5.out HNL.out HB5.out.size hrc5 (HQl.out.mono Yb) Ya);obtain⟨bn',bd',dn',dd',rfl,rfl,rfl,_⟩:=hrc5.ex;clear hv5 hb5 hrc5 HCn t0 t1 t2 t3 tf tlt z0 z1 z2 zf zlt
      go_wp2_with fail
      refine HN1.out.mono ?_
      rintro e w6 ⟨a6,c6,rfl,ho6,hg6,hn6⟩;obtain⟨HOwZ,HBz,HT6,HR6⟩:=hd4 ho6 (HB5.out.grown hg6 HB5.out.size (fun k hk=>(HOw5.out.lt hk).1)) (HT5.out.grown hg6 HOt.out) (HR5.out.grown hg6 HOw5.out.al.noI);have hL6:(L++za7 v q).length<=500002:=XA;obtain⟨n6,hn6'⟩:∃n6,n6=(L++za7 v q).length:=⟨_,rfl⟩
      rw[<- hn6']at HOwZ hL6⊢;have HNz:=hid (zcx (v:=u) HOwZ.out hn6'.symm HBz.out.size HR6.out HRl.out Ya);obtain⟨t0,t1,t2,t3,tf,tlt⟩:=HT6.out;clear ho6 hg6 hn6 hn6' HN1
      go_wp2_with fail
      refine HNz.out.mono ?_
      rintro e w9 ⟨a9,c9,rfl,ho9,hg9,_⟩;obtain⟨n9,hn9⟩:∃n9,n9=((L++za7 v q)++za7 u p).length:=⟨_,rfl⟩
      rw[<- hn9]at ho9⊢;obtain⟨HN9,HO9,HB9⟩:=hd3 hn9 ho9 ((HBz.out).grown hg9 (HBz.out).size (fun k hk=>(HOwZ.out.lt hk).1));clear ho9 hg9 hn9 HNz;go_wp2;go_roundw
      case rel=>exact⟨j+1,(L++za7 v q)++za7 u p,true,a9,c9,hlt,VZ,rfl,Yg,HI1.out,XY,HB9.out⟩
      case measure=>simp[intOf];omega
     ·have k3:decide ((v:Int)<(u:Int))=false:=Zo Ya;have k4:¬ ((v:Int)<(u:Int)):=Ya;have k5:decide (v<u)=false:=Zo Ya;obtain⟨HI1,HNz⟩:=hd2 (HI.out.lt HCan.out HXx.out Ya) (zcx (v:=u) HOwj.out HNL.out HBj.out.size HRj.out HRl.out Ya);clear hgt huv
      go_wp2_with fail
      refine HNz.out.mono ?_
      rintro e w9 ⟨a9,c9,rfl,ho9,hg9,_⟩;obtain⟨n9,hn9⟩:∃n9,n9=(L++za7 u p).length:=⟨_,rfl⟩
      rw[<- hn9]at ho9⊢;obtain⟨HN9,HO9,HB9⟩:=hd3 hn9 ho9 ((HBj.out).grown hg9 (HBj.out).size (fun k hk=>(HOwj.out.lt hk).1));clear ho9 hg9 hn9 HNz;go_wp2;go_roundw
      case rel=>exact⟨j+1,L++za7 u p,false,a9,c9,hlt,VZ,rfl,Yg,HI1.out,XY,HB9.out⟩
      case measure=>simp[intOf];omega
   case true=>
    obtain⟨hvu,hI1⟩:=HI.out.dn HCan.out HXx.out;have k1:((u:Int)==(v:Int))=false:=bn0 Ya;have k2:decide ((u:Int)=(v:Int))=false:=Zo Ya;obtain⟨HI1,HNz⟩:=hd2 hI1 (zcx (v:=u) HOwj.out HNL.out HBj.out.size HRj.out HRl.out Ya);clear hvu hI1
    go_wp2_with fail
    refine HNz.out.mono ?_
    rintro e w9 ⟨a9,c9,rfl,ho9,hg9,_⟩;obtain⟨n9,hn9⟩:∃n9,n9=(L++za7 u p).length:=⟨_,rfl⟩
    rw[<- hn9]at ho9⊢;obtain⟨HN9,HO9,HB9⟩:=hd3 hn9 ho9 ((HBj.out).grown hg9 (HBj.out).size (fun k hk=>(HOwj.out.lt hk).1));clear ho9 hg9 hn9 HNz;go_wp2;go_roundw
    case rel=>exact⟨j+1,L++za7 u p,true,a9,c9,hlt,VZ,rfl,Yg,HI1.out,XY,HB9.out⟩
    case measure=>simp[intOf];omega
  ·obtain rfl:j=f.ts.length:=Ya;obtain⟨x0,x1,x2,x3,xf,xlt⟩:=HPr.out.fb;have hrow:∀(W':World) (a':Option Addr) (n' c':Nat) (L':List (Nat×Rat)),zpW W' W3.heap.size (.slice a' n' c') L'->Below W3.heap.size W3 W'->L'.length=n'->L'=zef f.ts v q->n'<=500002->
     zaE w RR (.returned (.agg #[.slice a' n' c',.bool (zh f.c).neg,.slice an (zh f.c).num.length cn,.slice ad (zh f.c).den.length cd])) ((((W'.setCell ⟨w.heap.size+2,0,none⟩ (.slice a' n' c')).setCell ⟨w.heap.size+2,1,none⟩ (.bool (zh f.c).neg)).setCell ⟨w.heap.size+2,2,none⟩ (.slice an (zh f.c).num.length cn)).setCell ⟨w.heap.size+2,3,none⟩ (.slice ad (zh f.c).den.length cd)):=by
    intro W' a' n' c' L' ho hb hl he hn;subst hl;have hP:=HP.out.below hb;obtain⟨a2,c2,e2,hcc⟩:=ho.form;cases e2;have hfm:zai W' (.agg #[.slice a' L'.length c',.bool (zh f.c).neg,.slice an (zh f.c).num.length cn,.slice ad (zh f.c).den.length cd]) RR:=by
     rw[HRR.out,<- he];exact⟨_,_,_,_,rfl,⟨a',c',rfl,hcc,ho.read Ya⟩,hP.kc⟩
    exact hfm.ret hP.ra hP.bl Ya
   have HRow:=hid hrow;clear hrow;cases dn
   case false=>
    have HL:Hid (L++za7 v q=zef f.ts v q):=by
     rcases HI.out with⟨_,h1,h2⟩|⟨h,_⟩
     ·rw[ZQ (Za _)]at h1 h2;rw[h1];exact(zoG h2).symm
     ·cases h
    have HCn:Hid (Calls Tryz.prog 45 #[.agg #[.bool (zh q).neg,.slice qn (zh q).num.length qcn,.slice qd (zh q).den.length qcd]] wr (zey wr (zh q))):=by
     have h:=zjX HPr.out.qv (HQl.out.mono Yb);rw[zcz,zax]at h;exact h
    obtain⟨z0,z1,z2,zf,zlt⟩:=HPr.out.cb
    go_wp2_with fail
    refine HCn.out.mono ?_
    rintro e w5 ⟨v5,rfl,hv5,hb5⟩;obtain⟨r1,r2,r3,rfl,hrc5⟩:=zbA.of hv5;have HOw5:=hid (HOw.out.below zbI hb5);have HB5:=htr HB hb5;have HN1:=hid (zcx (v:=v) HOw5.out HNL.out HB5.out.size hrc5 (HQl.out.mono Yb) Ya);obtain⟨bn',bd',dn',dd',rfl,rfl,rfl,_⟩:=hrc5.ex;clear hv5 hb5 hrc5 HCn x0 x1 x2 x3 xf xlt z0 z1 z2 zf zlt
    go_wp2_with fail
    refine HN1.out.mono ?_
    rintro e w6 ⟨a6,c6,rfl,ho6,hg6,hn6⟩;have HB6:=hid (HB5.out.grown hg6 HB5.out.size (fun k hk=>(HOw5.out.lt hk).1));have hL6:(L++za7 v q).length<=500002:=XA;have hr:=HRow.out w6 a6 _ c6 _ ho6 HB6.out rfl HL.out hL6;obtain⟨n6,hn6'⟩:∃n6,n6=(L++za7 v q).length:=⟨_,rfl⟩
    rw[<- hn6']at hr⊢;obtain⟨HR6,HP6⟩:=hd2 hr (HP.out.below HB6.out);obtain⟨x0,x1,x2,x3,xf,xlt⟩:=HP6.out.fb;obtain⟨r0,r1,r2,r3,rf,rlt⟩:=HP6.out.rb;clear ho6 hg6 hn6 hn6' HN1 hr;go_wp2;exact Zr Xs rfl HR6.out
   case true=>
    have HL:Hid (L=zef f.ts v q):=by
     rcases HI.out with⟨h,_⟩|⟨_,h1,_⟩
     ·cases h
     ·rw[ZQ (Za _)]at h1;exact h1
    have HR6:=hid (HRow.out wr aO nL cO L HOw.out HB.out HNL.out HL.out Ya);obtain⟨r0,r1,r2,r3,rf,rlt⟩:=HPr.out.rb;go_wp2;exact Zr Xs rfl HR6.out
structure ScS (W3 wr:World) (tb base:Nat) (s:Value) (L:List (Nat×Rat)) (c1 c2 c3:Value) (k:Rat):Prop where
 bx:zbo wr tb s c1 c2 c3
 no:zV wr tb
 own:zpW wr base s L
 kc:zbA wr c1 c2 c3 k
 bl:Below W3.heap.size W3 wr
 lt:tb<base
 ge:W3.heap.size<=tb
theorem ScS.below{W3 wr W:World}{tb base:Nat}{s:Value}{L:List (Nat×Rat)}{c1 c2 c3:Value}{k:Rat}(h:ScS W3 wr tb base s L c1 c2 c3 k)(hb:Below wr.heap.size wr W):ScS W3 W tb base s L c1 c2 c3 k:=
 ⟨h.bx.below hb,h.no.below hb h.bx.lt,h.own.below zbI hb,h.kc.below hb,h.bl.trans (hb.mono h.bl.size),h.lt,h.ge⟩
theorem ScS.app{W3 wr W:World}{tb base:Nat}{s s':Value}{L L':List (Nat×Rat)}{c1 c2 c3:Value}{k:Rat}(h:ScS W3 wr tb base s L c1 c2 c3 k)(ho:zpW W base s' L')(hg:wr.grownBy W s.ownBlock)(hs:∀x,s'≠.int .u32 x):
  ScS W3 (W.setCell ⟨tb,0,none⟩ s') tb base s' L' c1 c2 c3 k:=by
 have hlt:=h.lt;have hge:=h.ge;have hf1:s.ownBlock≠some tb:=fun e=>by have:=(h.own.lt e).1;omega
 have hf2:s'.ownBlock≠some tb:=fun e=>by have:=(ho.lt e).1;omega
 have hn:=h.no.grown h.bx.lt hg hf1;have hb:Below W3.heap.size W3 W:=h.bl.grown hg h.bl.size (fun q hq=>by have:=(h.own.lt hq).1;omega);exact⟨(h.bx.grown hg hf1).set0 s',hn.setCell _ _ hs,zM ho hn hf2 _ _,(h.kc.grown hg h.own.al.noI).setCell hn _ _,hb.setCell (p:=⟨tb,0,none⟩) hge _,hlt,hge⟩
theorem zny{w:World}{vf vq:Value}{f:zl}{q:Rat}(hf:zai w vf f)(hq:RatV w vq (zh q))(hcan:f.Can)(hfb:∀t∈f.ts,zaf (zh t.2) 1048575)(hcb:zaf (zh f.c) 1048575)(hql:zaf (zh q) 1048575)(hs:∀t∈f.ts,zaf (zh (t.2*q)) 1048576)(few:f.ts.length<=500000):
  Calls Tryz.prog 49 #[vf,vq] w (zaE w (scA q f)):=by
 obtain⟨a,c,an,ad,cn,cd,rfl,hc,ht,l1,l2,u1,u2⟩:=hf.parts;obtain⟨qn,qd,qcn,qcd,rfl,m1,m2,v1,v2⟩:=hq.ex;obtain⟨HFb,HCb,HQl,HSm⟩:=hd4 hfb hcb hql hs;obtain⟨RR,hRR⟩:∃RR:zl,RR=scA q f:=⟨_,rfl⟩
 have HRR:Hid (RR=⟨zlP q f.ts,f.c*q⟩):=by
  unfold Hid;rw[hRR];show(⟨zeQ q [] f.ts,0+q*f.c⟩:zl)=_
  rw[<- zoV hcan,Za0,Rat.mul_comm]
 rw[<- hRR];have b1:=blA w (.cells #[.slice a f.ts.length c,.bool (zh f.c).neg,.slice an (zh f.c).num.length cn,.slice ad (zh f.c).den.length cd] 53);have s1:(w.alloc (.cells #[.slice a f.ts.length c,.bool (zh f.c).neg,.slice an (zh f.c).num.length cn,.slice ad (zh f.c).den.length cd] 53)).heap.size=w.heap.size+1:=Yd;have x1:=zbo.alloc w (.slice a f.ts.length c) (.bool (zh f.c).neg) (.slice an (zh f.c).num.length cn) (.slice ad (zh f.c).den.length cd) 53;obtain⟨W1,hW1⟩:∃W1,W1=w.alloc (.cells #[.slice a f.ts.length c,.bool (zh f.c).neg,.slice an (zh f.c).num.length cn,.slice ad (zh f.c).den.length cd] 53):=⟨_,rfl⟩
 rw[<- hW1]at b1 s1 x1;have b2:=blA W1 (.cells #[.bool (zh q).neg,.slice qn (zh q).num.length qcn,.slice qd (zh q).den.length qcd] 51);have s2:(W1.alloc (.cells #[.bool (zh q).neg,.slice qn (zh q).num.length qcn,.slice qd (zh q).den.length qcd] 51)).heap.size=w.heap.size+2:=by simp[s1]
 have x2:=zbn.alloc W1 (.bool (zh q).neg) (.slice qn (zh q).num.length qcn) (.slice qd (zh q).den.length qcd) 51;rw[s1]at x2;obtain⟨W2,hW2⟩:∃W2,W2=W1.alloc (.cells #[.bool (zh q).neg,.slice qn (zh q).num.length qcn,.slice qd (zh q).den.length qcd] 51):=⟨_,rfl⟩
 rw[<- hW2]at b2 s2 x2;have b3:=blA W2 (.cells #[.slice none 0 0,.bool false,.slice none 0 0,.slice none 0 0] 53);have x3:=zc9.alloc (zaA W2) 53;rw[s2]at x3;obtain⟨W3,hW3⟩:∃W3,W3=W2.alloc (.cells #[.slice none 0 0,.bool false,.slice none 0 0,.slice none 0 0] 53):=⟨_,rfl⟩
 rw[<- hW3]at b3 x3;have b23:=b2.trans (b3.mono b2.size);have b13:=b1.trans (b23.mono b1.size);have HP:Hid (PlB w W3 f.ts f.c 0 q a an ad f.ts.length c (zh f.c).num.length cn (zh f.c).den.length cd (zh f.c).neg (zh q).neg qn qd (zh q).num.length qcn (zh q).den.length qcd):=
  ⟨x1.below b23,x2.below b3,x3.bx,x3.al,ht.below zbI b13,zbA.below ⟨an,ad,cn,cd,rfl,rfl,rfl,l1,l2,u1,u2⟩ b13,hq.below b13,b13⟩
 have HW:Hid (W3=((w.alloc (.cells #[.slice a f.ts.length c,.bool (zh f.c).neg,.slice an (zh f.c).num.length cn,.slice ad (zh f.c).den.length cd] 53)).alloc (.cells #[.bool (zh q).neg,.slice qn (zh q).num.length qcn,.slice qd (zh q).den.length qcd] 51)).alloc (.cells #[.slice none 0 0,.bool false,.slice none 0 0,.slice none 0 0] 53)):=by unfold Hid;rw[hW3,hW2,hW1]
 clear x1 x2 x3 b1 b2 b3 s1 s2 b23 b13 hW1 hW2 hW3 hf hq ht u1 u2 v1 v2 hfb hql hs hcan hRR l1 l2 m1 m2 hcb
 go_enter Tryz.func49,Tryz.ntmps49
 go_upto_region 1 with fail
 rw[<- HW.out];clear HW;obtain⟨x0,x1,x2,x3,xf,xlt⟩:=HP.out.fb;obtain⟨z0,z1,z2,zf,zlt⟩:=HP.out.cb;have HM:Hid (Calls Tryz.prog 80 #[.agg #[.bool (zh f.c).neg,.slice an (zh f.c).num.length cn,.slice ad (zh f.c).den.length cd],.agg #[.bool (zh q).neg,.slice qn (zh q).num.length qcn,.slice qd (zh q).den.length qcd]] W3 (zey W3 (zh (f.c*q)))):=by
  have h:=zrG HP.out.kc.val HP.out.qv HCb.out HQl.out;exact Ty
 go_wp2_with fail
 refine HM.out.mono ?_
 rintro e w5 ⟨v5,rfl,hv5,hb5⟩;obtain⟨r1,r2,r3,rfl,hrc5⟩:=zbA.of hv5;have HRc5:=hid hrc5;obtain⟨bn',bd',dn',dd',rfl,rfl,rfl,_⟩:=hrc5.ex;have hal:=blA w5 (.cells #[.slice none 0 0,.bool (zh (f.c*q)).neg,.slice bn' (zh (f.c*q)).num.length dn',.slice bd' (zh (f.c*q)).den.length dd'] 53);have hT:=zbo.alloc w5 (.slice none 0 0) (.bool (zh (f.c*q)).neg) (.slice bn' (zh (f.c*q)).num.length dn') (.slice bd' (zh (f.c*q)).den.length dd') 53;have hTn:=zV.alloc w5 #[.slice none 0 0,.bool (zh (f.c*q)).neg,.slice bn' (zh (f.c*q)).num.length dn',.slice bd' (zh (f.c*q)).den.length dd'] 53 Yd;have HSc:Hid (ScS W3 (w5.alloc (.cells #[.slice none 0 0,.bool (zh (f.c*q)).neg,.slice bn' (zh (f.c*q)).num.length dn',.slice bd' (zh (f.c*q)).den.length dd'] 53)) w5.heap.size (w5.heap.size+1) (.slice none 0 0) [] (.bool (zh (f.c*q)).neg) (.slice bn' (zh (f.c*q)).num.length dn') (.slice bd' (zh (f.c*q)).den.length dd') (f.c*q)):=
  ⟨hT,hTn,zdC.nil _ _,HRc5.out.below hal,hb5.trans (hal.mono hb5.size),Zai _,hb5.size⟩
 clear hv5 hb5 hrc5 HM HRc5 hal hT hTn x0 x1 x2 x3 xf xlt z0 z1 z2 zf zlt
 go_upto_region 2 with fail
 generalize w5.alloc (.cells #[.slice none 0 0,.bool (zh (f.c*q)).neg,.slice bn' (zh (f.c*q)).num.length dn',.slice bd' (zh (f.c*q)).den.length dd'] 53)=W6 at *;obtain⟨tb,htb⟩:∃tb,tb=w5.heap.size:=⟨_,rfl⟩
 rw[<- htb]at HSc⊢;clear htb;go_wp2
 go_loopw [6] (fun i wr=>∃(j:Nat) (L:List (Nat×Rat)) (aO:Option Addr) (nO cO:Nat),j<=f.ts.length/\i=.int .i64 (j:Int)/\Hid (L=zlP q (f.ts.take j))/\Hid (L.length=nO)/\nO<=j/\Hid (ScS W3 wr tb (tb+1) (.slice aO nO cO) L (.bool (zh (f.c*q)).neg) (.slice bn' (zh (f.c*q)).num.length dn') (.slice bd' (zh (f.c*q)).den.length dd') (f.c*q))) (fun i _=>f.ts.length-(intOf i).toNat)
 case atStart=>exact⟨0,[],none,0,0,Zs _,rfl,rfl,rfl,Za _,HSc.out⟩
 case round=>
  obtain⟨j,L,aO,nO,cO,hj,rfl,HL,HN,hnj,HS⟩:=hrel;have HPr:=hid (HP.out.below HS.out.bl);obtain⟨x0,x1,x2,x3,xf,xlt⟩:=HPr.out.fb
  by_cases hlt:j<f.ts.length
  ·obtain⟨bF,oF,⟨u,p⟩,p0,p1,p2,p3,haF,hbF,hx,e0,e1,e2,e3,rfl,hrc⟩:=HPr.out.tm.pick hlt;simp only at e0 hrc;have HRc:=hid hrc;obtain⟨an',ad',cn',cd',rfl,rfl,rfl,_⟩:=hrc.ex;have HStep:Hid (zlP q (f.ts.take (j+1))=L++za7 u (p*q)):=by
    unfold Hid;rw[zaZ hx,zje,HL.out]
   obtain⟨HPl,HPq⟩:=hd2 (HFb.out (u,p) (Zt hx)) (HSm.out (u,p) (Zt hx));have HMu:Hid (∀X,Below wr.heap.size wr X->Calls Tryz.prog 80 #[.agg #[.bool (zh p).neg,.slice an' (zh p).num.length cn',.slice ad' (zh p).den.length cd'],.agg #[.bool (zh q).neg,.slice qn (zh q).num.length qcn,.slice qd (zh q).den.length qcd]] X (zey X (zh (p*q)))):=fun X hb=>by
    have h:=zrG (HRc.out.below hb).val ((HPr.out.below hb).qv) HPl.out HQl.out;exact Ty
   have HCe:Hid (∀X,Below wr.heap.size wr X->X.cell? ⟨w.heap.size,0,none⟩=some (.slice (some ⟨bF,oF,none⟩) f.ts.length c)/\w.heap.size<X.heap.size/\X.cell? ⟨w.heap.size+1,0,none⟩=some (.bool (zh q).neg)/\X.cell? ⟨w.heap.size+1,1,none⟩=some (.slice qn (zh q).num.length qcn)/\X.cell? ⟨w.heap.size+1,2,none⟩=some (.slice qd (zh q).den.length qcd)/\w.heap.size+1<X.heap.size/\
     X.cell? ⟨bF,oF+j*4,none⟩=some (.int .i64 (u:Int))/\X.cell? ⟨bF,oF+j*4+1,none⟩=some (.bool (zh p).neg)/\X.cell? ⟨bF,oF+j*4+2,none⟩=some (.slice an' (zh p).num.length cn')/\X.cell? ⟨bF,oF+j*4+3,none⟩=some (.slice ad' (zh p).den.length cd')/\bF<X.heap.size/\
     X.cell? ⟨tb,0,none⟩=some (.slice aO nO cO)/\tb<X.heap.size):=fun X hb=>by
    have hP:=HPr.out.below hb;have hS:=HS.out.below hb
    refine⟨by rw[<- haF];exact hP.fb.c0,hP.fb.lt,hP.cb.c0,hP.cb.c1,hP.cb.c2,hP.cb.lt,(hb.cell hbF).trans e0,(hb.cell hbF).trans e1,(hb.cell hbF).trans e2,(hb.cell hbF).trans e3,Zd hbF hb.size,hS.bx.c0,hS.bx.lt⟩
   rw[haF];rw[haF]at x0;clear hx hrc e0 e1 e2 e3 HPl
   go_upto_region 5 with fail
   clear x0 x1 x2 x3 xf xlt
   refine zv 17 Yc Yc Yc Yc Yb (zcm wr.heap.size wr) (fun w w'=>Below w.heap.size w w') (GQ [.val (.pointer (some ⟨tb,0,none⟩)),.val (.slice aO nO cO),.val (.pointer (some ⟨w.heap.size,0,none⟩)),.val (.slice (some ⟨bF,oF,none⟩) f.ts.length c),.val (.int .i64 (j:Int)),.val (.pointer (some ⟨bF,oF+j*4,none⟩)),.val (.pointer (some ⟨bF,oF+j*4,none⟩)),.val (.int .i64 (u:Int)),.val (.pointer (some ⟨w.heap.size,0,none⟩)),.val (.slice (some ⟨bF,oF,none⟩) f.ts.length c),.val (.int .i64 (j:Int)),.val (.pointer (some ⟨bF,oF+j*4,none⟩)),.val (.pointer (some ⟨bF,oF+j*4+1,none⟩)),.val (.agg #[.bool (zh p).neg,.slice an' (zh p).num.length cn',.slice ad' (zh p).den.length cd']),.val (.agg #[.bool (zh q).neg,.slice qn (zh q).num.length qcn,.slice qd (zh q).den.length qcd]),.rat (p*q),.trm u (p*q)]) (fun i v w w' h hb=>zaV h hb) (zcm.start (Za _)) ?_ ?_
   ·intro ops;simp only[Zm,Zv,zbM]
    refine⟨?v0,?v1,?v2,?v3,?v4,?v5,?v6,?v7,?v8,?v9,?v10,?v11,?v12,?v13,?v14,?_,?_,trivial⟩
    all_goals (intro y' X hR hL;have hB:=hR.base;obtain⟨x0,xlt,k0,k1,k2,klt,e0,e1,e2,e3,elt,t0,tlt⟩:=HCe.out X hR.be;simp only[zbd,Region.binds,Zj,Ze,Zi,GQ,Zc,Zb]at hL;simp[zg,Act.put])
    case v0|v1|v2|v3|v4|v5|v6|v7|v8|v9|v10|v11|v12|v13|v14=>
     exact Om
    ·try simp only[hL]
     clear hL;have HR:=hid hR;clear hR;have HCt:=hid (HMu.out X HR.out.be);exact Uh
    ·generalize y' 7=y7 at hL⊢;generalize y' 15=y15 at hL⊢;obtain⟨rfl,H15,_⟩:=hL;obtain⟨K15,HR⟩:=hd2 H15 hR;clear hR H15;obtain⟨an',ad',cn',cd',rfl,l1,l2,u1,u2⟩:=K15.out.ex;have HRC:=hid (show zbA X _ _ _ _ from⟨an',ad',cn',cd',rfl,rfl,rfl,l1,l2,u1,u2⟩);clear u1 u2 K15;exact EX
   ·intro ops y' X hR hL;have hB:=hR.base;have J1:=hL.1.1.1.1.1.1.1.1.1.1.1.1.1.1.1.2;have J16:=hL.2;simp only[GQ,Zc,Zb]at J1 J16;obtain⟨x0,xlt,k0,k1,k2,klt,e0,e1,e2,e3,elt,t0,tlt⟩:=HCe.out X hR.be;clear hL;simp only[Zm,Zv,ZD,ZN];simp[zg,Act.put];generalize y' 1=y1 at J1⊢;obtain rfl:=J1;generalize y' 16=y16 at J16⊢;have HR:=hid hR;clear hR;obtain⟨r1,r2,r3,rfl,hrc⟩:=J16;have HSX:=hid (HS.out.below HR.out.be);have HNz:=hid (zcx (v:=u) HSX.out.own HN.out (Zl HSX.out.bx.lt (Za _)) hrc HPq.out Ya);obtain⟨an2,ad2,cn2,cd2,rfl,rfl,rfl,_⟩:=hrc.ex;clear hrc x0 xlt k0 k1 k2 klt e0 e1 e2 e3 elt t0 tlt
    go_wp2_with fail
    refine HNz.out.mono ?_
    rintro e w9 ⟨a9,c9,rfl,ho9,hg9,_⟩;obtain⟨n9,hn9⟩:∃n9,n9=(L++za7 u (p*q)).length:=⟨_,rfl⟩
    rw[<- hn9]at ho9⊢;have hn9b:n9<=j+1:=by have h:=zgM u (p*q);have h2:=HN.out;rw[hn9,ZB];omega
    obtain⟨HN9,HS9⟩:=hd2 hn9 (HSX.out.app ho9 hg9 Yd);have hb9:=(HSX.out.bx.grown hg9 (fun e=>by have:=(HSX.out.own.lt e).1;omega))
    obtain⟨t0,t1,t2,t3,tf,tlt⟩:=hb9;clear ho9 hg9 hn9 HNz;go_wp2;go_roundw
    case rel=>exact⟨j+1,L++za7 u (p*q),a9,n9,c9,hlt,Yg,HStep.out.symm,HN9.out.symm,hn9b,HS9.out⟩
    case measure=>simp[intOf];omega
  ·obtain rfl:j=f.ts.length:=Ya;obtain⟨t0,t1,t2,t3,tf,tlt⟩:=HS.out.bx;obtain⟨r0,r1,r2,r3,rf,rlt⟩:=HPr.out.rb;have hcc:nO<=cO:=by
    obtain⟨a2,c2,e2,hcc⟩:=HS.out.own.form;simp only[Value.slice.injEq]at e2;obtain⟨_,e3,e4⟩:=e2;have:=HN.out;omega
   have hfm:zai wr (.agg #[.slice aO nO cO,.bool (zh (f.c*q)).neg,.slice bn' (zh (f.c*q)).num.length dn',.slice bd' (zh (f.c*q)).den.length dd']) RR:=by
    rw[HRR.out];have hL:=HL.out;rw[ZQ (Za _)]at hL;have hN:=HN.out;subst hL;exact⟨_,_,_,_,rfl,⟨aO,cO,by rw[hN],by rw[hN];exact hcc,HS.out.own.read (by rw[hN];omega)⟩,HS.out.kc⟩
   have HO:=hid (hfm.ret HPr.out.ra HPr.out.bl Ya);clear hfm hcc;go_wp2;exact Zr (by simp[results,Tryz.results49,go_sem,r0,r1,r2,r3,rlt,ZaL rlt]) rfl HO.out
theorem zkJ:∀{l:List (Nat×Rat)} {lo:Nat} (j:Nat),zbv l lo->zbv (l.take j) lo
 | [],_,j,_=>by rw[List.take_nil];trivial
 | _::_,_,0,_=>trivial
 | (u,p)::r,lo,j+1,⟨h1,h2,h3⟩=>⟨h1,h2,zkJ j h3⟩
theorem ziG:∀{l:List (Nat×Rat)} {lo:Nat} (j v:Nat),zbv l lo->zH (l.take j) v=0∨zH (l.take j) v=zH l v
 | [],_,j,v,_=>by rw[List.take_nil];exact .inl rfl
 | _::_,_,0,v,_=>.inl rfl
 | (u,p)::r,lo,j+1,v,⟨_,_,h3⟩=>by
  show(if u=v then p else zH (r.take j) v)=0∨(if u=v then p else zH (r.take j) v)=(if u=v then p else zH r v)
  split
  ·exact .inr rfl
  ·exact ziG j v h3
theorem zgl:∀(f g:List (Nat×Rat)),(zcX f g).length<=f.length+g.length
 | f,[]=>by simp[zcX]
 | f,(v,q)::r=>by
  show(zcX (zef f v q) r).length<=_
  have h1:=zgl (zef f v q) r;have h2:=zhC f v q;rw[ZJ];omega
theorem zmb{D B C N j:Nat}{f g:zl}(hf:BdF D B N f)(hg:BdF D C N g)(v:Nat):Bd D (B+C) (zH (zcX f.ts (g.ts.take j)) v):=by
 rw[ze9 hf.can (zkJ j hg.can) v]
 refine(hf.t v).add ?_
 rcases ziG j v hg.can with e|e
 ·rw[e];exact Bd.zero hf.pos
 ·rw[e];exact hg.t v
theorem zoz{D B C N j:Nat}{f g:zl}(hf:BdF D B N f)(hg:BdF D C N g){t:Nat×Rat}(ht:t∈zcX f.ts (g.ts.take j)):Bd D (B+C) t.2:=by
 have h:=zmb (j:=j) hf hg t.1
 rwa [(zeW (zcV hf.can) ht).2]at h
theorem zmy{D B C N j u:Nat}{f g:zl}{p p':Rat}(hf:BdF D B N f)(hg:BdF D C N g)(hx:g.ts[j]? =some (u,p))(ht:(u,p')∈zcX f.ts (g.ts.take j)):Bd D (B+C) (p'+p):=by
 have h:=zmb (j:=j+1) hf hg u;rw[zaZ hx,ze5,zf9 u p (zcV hf.can),Zq rfl,(zeW (zcV hf.can) ht).2]at h;exact h
theorem Pay.b5{D B:Nat}{q:Rat}(h:Pay D B)(hq:Bd D B q):zaf (zh q) 524285:=hq.le h
inductive Sx where
 | val (x:Value)
 | rat (q:Rat)
 | num (s:Value) (q:Rat)
 | new4 (B:Nat)
def GX(L:List Sx)(i:Nat)(v:Value)(w:World):Prop:=
 match L[i]? with
 | some (.val x)=>v=x
 | some (.rat q)=>RatV w v (zh q)
 | some (.num s q)=>∃p1 p2 p3,v=.agg #[s,p1,p2,p3]/\zbA w p1 p2 p3 q
 | some (.new4 B)=>∃b,v=.pointer (some ⟨b,0,none⟩)/\B<=b/\zbo w b (.slice none 0 0) (.bool false) (.slice none 0 0) (.slice none 0 0)/\zbt zb5 w b
 | none=>True
theorem zok{L:List Sx}{i:Nat}{v:Value}{w w':World}(h:GX L i v w)(hb:Below w.heap.size w w'):GX L i v w':=by
 unfold GX at h⊢
 split
 ·rename_i x hx;rw[hx]at h;exact h
 ·rename_i x hx;rw[hx]at h;exact RatV.below h hb
 ·rename_i s x hx;rw[hx]at h;obtain⟨p1,p2,p3,e,k⟩:=h;exact⟨p1,p2,p3,e,k.below hb⟩
 ·exact Ig
 ·trivial
structure CpJ (W1:World) (t0 t1 t2 c1 c2 c3:Value) (n:Nat) (L:List (Nat×Rat)) (d:Nat->Bool) (g:Nat->Value) (W:World):Prop where
 be:Below W1.heap.size W1 W
 v0:d 0=true->d 3=false->∃b,g 0=.slice (some ⟨b,0,none⟩) 0 0/\W1.heap.size<=b/\W.heap[b]? =some (.cells #[] 84 (0,0))
 v1:d 1=true->g 1=t0
 v2:d 2=true->g 2=t1
 v3:d 3=true->∃b c,g 3=.slice b n c/\n<=c/\z8 W b L
 v4:d 4=true->g 4=t2
 v5:d 5=true->g 5=.agg #[c1,c2,c3]
 c6:d 6=true->d 3=true
 v6:d 6=true->∃b c,g 6=.agg #[.slice b n c,c1,c2,c3]/\n<=c/\z8 W b L
theorem zoY{α:Type}{P:World->Value->Value->Value->Value->α->Prop}{T:TypeId}{w:World}{base:Nat}{a:Option Addr}{n c:Nat}{L:List α}{xs:List Value}(ho:w.ownsRow base T 4 (.slice a n c) n xs)(hn:L.length=n)(he:∀(j:Nat) (x:α),L[j]? =some x->∃p0 p1 p2 p3,xs[j*4]? =some p0/\xs[j*4+1]? =some p1/\xs[j*4+2]? =some p2/\xs[j*4+3]? =some p3/\P w p0 p1 p2 p3 x)(hl:L.length<=9223372036854775807):ze8 P w a L:=On
section
variable {W1:World} {t0 t1 t2 c1 c2 c3:Value} {n:Nat} {L:List (Nat×Rat)} {d:Nat->Bool} {g:Nat->Value} {W W':World}
theorem zi7(d:Nat->Bool)(i:Nat):zdB d i i=true:=JB
theorem zf3(g:Nat->Value)(i:Nat)(v:Value):upd g i v i=v:=JJ
theorem zeF{g:Nat->Value}{i j:Nat}{v:Value}(h:j≠i):upd g i v j=g j:=by unfold upd;rw[Zh h]
theorem CpJ.start(g:Nat->Value):CpJ W1 t0 t1 t2 c1 c2 c3 n L (fun _=>false) g W1.drew:=
 ⟨(Zg _ _).drew,(fun h=>YG),(fun h=>YG),(fun h=>YG),(fun h=>YG),(fun h=>YG),(fun h=>YG),(fun h=>YG),(fun h=>YG)⟩
theorem CpJ.s0(h:CpJ W1 t0 t1 t2 c1 c2 c3 n L d g W):CpJ W1 t0 t1 t2 c1 c2 c3 n L (zdB d 0) (upd g 0 (.slice (some ⟨W.heap.size,0,none⟩) 0 0)) (W.alloc (.cells #[] 84)):=by
 have hal:=blA W (.cells #[] 84)
 refine⟨h.be.trans (hal.mono h.be.size),fun _ _=>⟨_,zf3 _ _ _,h.be.size,Za5 W _⟩,fun k=>?_,fun k=>?_,fun k=>?_,fun k=>?_,fun k=>?_,fun k=>?_,fun k=>?_⟩
 ·exact Iy
 ·exact Iz
 ·rw[zas Yb]at k;rw[zeF Yb];obtain⟨b,c,e,l,t⟩:=h.v3 k;exact⟨b,c,e,l,t.below zbI hal⟩
 ·exact I0
 ·exact I2
 ·rw[zas Yb]at k⊢;exact h.c6 k
 ·rw[zas Yb]at k;rw[zeF Yb];obtain⟨b,c,e,l,t⟩:=h.v6 k;exact⟨b,c,e,l,t.below zbI hal⟩
theorem CpJ.sv(h:CpJ W1 t0 t1 t2 c1 c2 c3 n L d g W){i:Nat}{v:Value}(hi:(i=1/\v=t0)∨(i=2/\v=t1)∨(i=4/\v=t2)∨(i=5/\v=.agg #[c1,c2,c3])):CpJ W1 t0 t1 t2 c1 c2 c3 n L (zdB d i) (upd g i v) W:=by
 have key:∀j,j≠i->zdB d i j=d j/\upd g i v j=g j:=fun j hj=>⟨zas hj,zeF hj⟩
 have h0:=key 0 Ya;have h3:=key 3 Ya;have h6:=key 6 Ya
 refine⟨h.be,fun k k2=>?_,fun k=>?_,fun k=>?_,fun k=>?_,fun k=>?_,fun k=>?_,fun k=>?_,fun k=>?_⟩
 ·rw[h0.1]at k;rw[h3.1]at k2;rw[h0.2];exact h.v0 k k2
 ·by_cases e:1=i
  ·exact Tl
  ·rw[(key 1 e).1]at k;rw[(key 1 e).2];exact h.v1 k
 ·by_cases e:2=i
  ·exact Tl
  ·rw[(key 2 e).1]at k;rw[(key 2 e).2];exact h.v2 k
 ·rw[h3.1]at k;rw[h3.2];exact h.v3 k
 ·by_cases e:4=i
  ·exact Tl
  ·rw[(key 4 e).1]at k;rw[(key 4 e).2];exact h.v4 k
 ·by_cases e:5=i
  ·exact Tl
  ·rw[(key 5 e).1]at k;rw[(key 5 e).2];exact h.v5 k
 ·rw[h6.1]at k;rw[h3.1];exact h.c6 k
 ·rw[h6.1]at k;rw[h6.2];exact h.v6 k
theorem CpJ.s3(h:CpJ W1 t0 t1 t2 c1 c2 c3 n L d g W)(hd:d 3=false)(hb:Below W1.heap.size W1 W'){b:Option Addr}{c:Nat}(hc:n<=c)(ht:z8 W' b L):CpJ W1 t0 t1 t2 c1 c2 c3 n L (zdB d 3) (upd g 3 (.slice b n c)) W':=by
 refine⟨hb,fun _ k2=>?_,fun k=>?_,fun k=>?_,fun _=>⟨b,c,zf3 _ _ _,hc,ht⟩,fun k=>?_,fun k=>?_,fun _=>zi7 _ _,fun k=>?_⟩
 ·rw[zi7]at k2;cases k2
 ·exact Iy
 ·exact Iz
 ·exact I0
 ·exact I2
 ·rw[zas Yb]at k;have:=h.c6 k;rw[hd]at this;cases this
theorem CpJ.s6(h:CpJ W1 t0 t1 t2 c1 c2 c3 n L d g W)(h3:d 3=true){b:Option Addr}{c:Nat}(hc:n<=c)(ht:z8 W b L):CpJ W1 t0 t1 t2 c1 c2 c3 n L (zdB d 6) (upd g 6 (.agg #[.slice b n c,c1,c2,c3])) W:=by
 refine⟨h.be,fun k k2=>?_,fun k=>?_,fun k=>?_,fun k=>?_,fun k=>?_,fun k=>?_,fun _=>by rw[zas Yb];exact h3,fun _=>⟨b,c,zf3 _ _ _,hc,ht⟩⟩
 ·rw[zas Yb]at k k2;rw[zeF Yb];exact h.v0 k k2
 ·exact Iy
 ·exact Iz
 ·rw[zas Yb]at k;rw[zeF Yb];exact h.v3 k
 ·exact I0
 ·exact I2
end
theorem zqO{W1 W w5:World}{t0 t1 t2 c1 c2 c3 v':Value}{n:Nat}{L:List (Nat×Rat)}{d:Nat->Bool}{g:Nat->Value}{news:List Value}{v:Value}(h:CpJ W1 t0 t1 t2 c1 c2 c3 n L d g W)(hd:d 3=false)(hn:L.length=n)(he:∀(j:Nat) (x:Nat×Rat),L[j]? =some x->∃p0 p1 p2 p3,news[j*4]? =some p0/\news[j*4+1]? =some p1/\news[j*4+2]? =some p2/\news[j*4+3]? =some p3/\zd9 W1 p0 p1 p2 p3 x)(hl:n<=500000)
 (hv:W.ownsRow W1.heap.size 84 4 v 0 [])(hown:w5.ownsRow W1.heap.size 84 4 v' (0+n) ([]++news))(hg:W.grownBy w5 v.ownBlock):CpJ W1 t0 t1 t2 c1 c2 c3 n L (zdB d 3) (upd g 3 v') w5:=by
 rw[ZO,ZaP]at hown;obtain⟨b,c,rfl,hc⟩:=zc4 hown;have hb:Below W1.heap.size W1 w5:=h.be.grown hg h.be.size (fun k hk=>(hv.lt k hk).1)
 refine h.s3 hd hb hc (zoY hown hn (fun j x hx=>?_) Ya)
 obtain⟨p0,p1,p2,p3,e0,e1,e2,e3,e4⟩:=he j x hx;exact⟨p0,p1,p2,p3,e0,e1,e2,e3,zbI.below e4 hb⟩
theorem znU{w:World}{vf vg:Value}{f g:zl}{D B C N:Nat}(hf:zai w vf f)(hg:zai w vg g)(bf:BdF D B N f)(bg:BdF D C N g)(hP:Pay D (B+C))(hN:N<=250000):
  Calls Tryz.prog 48 #[vf,vg] w (zaE w (za2 1 f g)):=by
 obtain⟨PP,hPE,hPP⟩:∃PP:Prop,PP=Pay D (B+C)/\PP:=⟨_,rfl,hP⟩
 obtain⟨HPE,HPP⟩:=hd2 hPE hPP;obtain⟨aF,cF,fan,fad,fcn,fcd,rfl,hcF,htF,l1,l2,u1,u2⟩:=hf.parts;obtain⟨aG,cG,gan,gad,gcn,gcd,rfl,hcG,htG,m1,m2,v1,v2⟩:=hg.parts;obtain⟨HBf,HBg⟩:=hd2 bf bg;have hlF:=bf.few;have hlG:=bg.few;obtain⟨RR,hRR⟩:∃RR:zl,RR=za2 1 f g:=⟨_,rfl⟩
 have HRR:Hid (RR=⟨zcX f.ts g.ts,f.c+g.c⟩):=by
  unfold Hid;rw[hRR];show(⟨zeQ 1 f.ts g.ts,f.c+1*g.c⟩:zl)=_
  rw[znB bf.can bg.can,Zbm]
 rw[<- hRR];have HT:=hid (zoW.mk' w (.slice aF f.ts.length cF) (.bool (zh f.c).neg) (.slice fan (zh f.c).num.length fcn) (.slice fad (zh f.c).den.length fcd) (.slice aG g.ts.length cG) (.bool (zh g.c).neg) (.slice gan (zh g.c).num.length gcn) (.slice gad (zh g.c).den.length gcd) 53);have HF0:Hid (z8 w aF f.ts/\zbA w (.bool (zh f.c).neg) (.slice fan (zh f.c).num.length fcn) (.slice fad (zh f.c).den.length fcd) f.c):=⟨htF,fan,fad,fcn,fcd,rfl,rfl,rfl,l1,l2,u1,u2⟩
 have HG0:Hid (z8 w aG g.ts/\zbA w (.bool (zh g.c).neg) (.slice gan (zh g.c).num.length gcn) (.slice gad (zh g.c).den.length gcd) g.c):=⟨htG,gan,gad,gcn,gcd,rfl,rfl,rfl,m1,m2,v1,v2⟩
 clear hf hg bf bg hP hPE hPP htF htG u1 u2 v1 v2 hRR l1 l2 m1 m2
 go_enter Tryz.func48,Tryz.ntmps48
 go_upto_region 1 with fail
 generalize((w.alloc (.cells #[.slice aF f.ts.length cF,.bool (zh f.c).neg,.slice fan (zh f.c).num.length fcn,.slice fad (zh f.c).den.length fcd] 53)).alloc (.cells #[.slice aG g.ts.length cG,.bool (zh g.c).neg,.slice gan (zh g.c).num.length gcn,.slice gad (zh g.c).den.length gcd] 53)).alloc (.cells #[.slice none 0 0,.bool false,.slice none 0 0,.slice none 0 0] 53)=W3 at *;have HAc:Hid (∀X,Below W3.heap.size W3 X->Calls Tryz.prog 78 #[.agg #[.bool (zh f.c).neg,.slice fan (zh f.c).num.length fcn,.slice fad (zh f.c).den.length fcd],.agg #[.bool (zh g.c).neg,.slice gan (zh g.c).num.length gcn,.slice gad (zh g.c).den.length gcd]] X (zey X (zh (f.c+g.c)))):=fun X hb=>by
  have hb2:=HT.out.bl.trans (hb.mono HT.out.bl.size);have hp:=HPP.out;rw[HPE.out]at hp;have h:=zrO (HF0.out.2.below hb2).val (HG0.out.2.below hb2).val ((hp.b5 (HBf.out.c.mono Ya)).mono Yb) ((hp.b5 (HBg.out.c.mono Ya)).mono Yb);exact Ty
 refine zv 9 Yc Yc Yc Yc Yb (zcm W3.heap.size W3) (fun w w'=>Below w.heap.size w w') (GX [.val (.pointer (some ⟨w.heap.size,0,none⟩)),.val (.slice aF f.ts.length cF),.val (.pointer (some ⟨w.heap.size,1,none⟩)),.val (.agg #[.bool (zh f.c).neg,.slice fan (zh f.c).num.length fcn,.slice fad (zh f.c).den.length fcd]),.val (.pointer (some ⟨w.heap.size+1,1,none⟩)),.val (.agg #[.bool (zh g.c).neg,.slice gan (zh g.c).num.length gcn,.slice gad (zh g.c).den.length gcd]),.rat (f.c+g.c),.num (.slice aF f.ts.length cF) (f.c+g.c),.new4 W3.heap.size]) (fun i v w w' h hb=>zok h hb) (zcm.start (Za _)) ?_ ?_
 ·intro ops;simp only[Zm,Zv,zbM]
  refine⟨?v0,?v1,?v2,?v3,?v4,?v5,?_,?_,?_,trivial⟩
  all_goals (intro y' X hR hL;have hB:=hR.base;have hT2:=HT.out.below hR.be;obtain⟨f0,f1,f2,f3,_,ft⟩:=hT2.fb;obtain⟨g0,g1,g2,g3,_,gt⟩:=hT2.gb;clear hT2;simp only[zbd,Region.binds,Zj,Ze,Zi,GX,Zc,Zb]at hL;simp[zg,Act.put])
  case v0|v1|v2|v3|v4|v5=>
   exact Om
  ·try simp only[hL]
   clear hL;have HR:=hid hR;clear hR;have HCt:=hid (HAc.out X HR.out.be);exact Uh
  ·generalize y' 1=y1 at hL⊢;generalize y' 6=y6 at hL⊢;obtain⟨rfl,H6,_⟩:=hL;obtain⟨K6,HR⟩:=hd2 H6 hR;clear hR H6;obtain⟨an',ad',cn',cd',rfl,l1,l2,u1,u2⟩:=K6.out.ex;have HRC:=hid (show zbA X _ _ _ _ from⟨an',ad',cn',cd',rfl,rfl,rfl,l1,l2,u1,u2⟩);clear u1 u2 K6;exact EX
  ·try simp only[hL]
   clear hL;have HR:=hid hR;clear hR;obtain⟨HK4,HN4,HBa⟩:=hd3 (zbo.alloc X (.slice none 0 0) (.bool false) (.slice none 0 0) (.slice none 0 0) 53) ((zc9.alloc (zaA X) 53).al) ((Zg X.heap.size X).alloc (Za _) (.cells #[.slice none 0 0,.bool false,.slice none 0 0,.slice none 0 0] 53));exact Ed
 ·intro ops y' X hR hL;have hB:=hR.base;have J7:=hL.1.2;have J8:=hL.2;simp only[GX,Zc,Zb]at J7 J8;have hT2:=HT.out.below hR.be;obtain⟨f0,f1,f2,f3,_,ft⟩:=hT2.fb;obtain⟨g0,g1,g2,g3,_,gt⟩:=hT2.gb;clear hT2;clear hL;simp only[Zm,Zv,ZD,ZN];simp[zg,Act.put];generalize y' 7=y7 at J7⊢;generalize y' 8=y8 at J8⊢;have HR:=hid hR;clear hR;obtain⟨r1,r2,r3,rfl,hrc⟩:=J7;obtain⟨tb,rfl,htb,hbx,hal⟩:=J8;have hbX:Below W3.heap.size W3 X:=HR.out.be;have hbw:=HT.out.bl.trans (hbX.mono HT.out.bl.size);have HAt:=hid (AcF.step (q0:=.slice aF f.ts.length cF) (q1:=r1) (q2:=r2) (q3:=r3) (k:=⟨zcX f.ts (g.ts.take 0),f.c+g.c⟩) (⟨⟨_,_,_,_,⟨hbx,hal,zaA X⟩⟩,hbX,htb⟩:AcF W3 X tb zbq) (Zg X.heap.size X) ⟨⟨aF,cF,rfl,hcF,(HF0.out.1.below zbI hbw)⟩,hrc⟩);obtain⟨an',ad',cn',cd',rfl,rfl,rfl,_⟩:=hrc.ex;obtain⟨b0,b1,b2,b3,bff,bflt⟩:=hbx;clear hrc hal hbX hbw f0 f1 f2 f3 ft g0 g1 g2 g3 gt HAc
  go_upto_region 2 with fail
  generalize(((X.setCell ⟨tb,0,none⟩ (.slice aF f.ts.length cF)).setCell ⟨tb,1,none⟩ (.bool (zh (f.c+g.c)).neg)).setCell ⟨tb,2,none⟩ (.slice an' (zh (f.c+g.c)).num.length cn')).setCell ⟨tb,3,none⟩ (.slice ad' (zh (f.c+g.c)).den.length cd')=W6 at *;clear b0 b1 b2 b3 bff bflt HR;go_wp2
  go_loopw [6] (fun i wr=>∃j:Nat,j<=g.ts.length/\i=.int .i64 (j:Int)/\Hid (AcF W3 wr tb ⟨zcX f.ts (g.ts.take j),f.c+g.c⟩)) (fun i _=>g.ts.length-(intOf i).toNat)
  case atStart=>exact⟨0,Zs _,rfl,HAt.out⟩
  case round=>
   obtain⟨j,hj,rfl,HA⟩:=hrel;obtain⟨HTr,HB⟩:=hd2 (HT.out.below HA.out.bl) HA.out.bl;have HBw:=hid HTr.out.bl;obtain⟨g0,g1,g2,g3,gf,glt⟩:=HTr.out.gb
   by_cases hlt:j<g.ts.length
   ·obtain⟨bF,oF,⟨u,p⟩,p0,p1,p2,p3,haF,hbF,hx,e0,e1,e2,e3,rfl,hrc⟩:=(HG0.out.1.below zbI HBw.out).pick hlt;simp only at e0 hrc;have HRc:=hid hrc;obtain⟨an',ad',cn',cd',rfl,rfl,rfl,_⟩:=hrc.ex;obtain⟨FJ,hFJ⟩:∃FJ:zl,FJ=⟨zcX f.ts (g.ts.take j),f.c+g.c⟩:=⟨_,rfl⟩
    obtain⟨FK,hFK⟩:∃FK:zl,FK=⟨zcX f.ts (g.ts.take (j+1)),f.c+g.c⟩:=⟨_,rfl⟩
    have HFK:=hid hFK;have HStep:Hid ((⟨zef FJ.ts u p,FJ.c⟩:zl)=FK):=by
     unfold Hid;rw[hFJ,hFK,zaZ hx,ze5]
    have HA1:=HA.out;rw[<- hFJ]at HA1;have HA2:=hid HA1;have hlen:FJ.ts.length<=500000:=by
     rw[hFJ];have h:=zgl f.ts (g.ts.take j);rw[ZZ]at h;show(zcX f.ts (g.ts.take j)).length<=500000
     omega
    obtain⟨sa,sn,sc,sb,san,snn,scn,sad,snd,scd,hbxs⟩:=HA1.spell;have HSf:=hid hbxs.fm.val;have hcan:FJ.Can:=by rw[hFJ];exact zcV HBf.out.can
    have HPl:Hid (∀X,Below wr.heap.size wr X->Calls Tryz.prog 79 #[.agg #[.slice sa sn sc,.bool sb,.slice san snn scn,.slice sad snd scd],.int .i64 (u:Int),.agg #[.bool (zh p).neg,.slice an' (zh p).num.length cn',.slice ad' (zh p).den.length cd']] X (zaE X FK)):=fun X hb=>by
     have hp:=HPP.out;rw[HPE.out]at hp;have h:=zrz (v:=u) (HSf.out.below hb) (HRc.out.below hb).val hcan
      (fun t ht=>by rw[hFJ]at ht;exact(hp.b5 (zoz HBf.out HBg.out ht)).mono Yb) ((hp.b5 ((HBg.out.mem (Zt hx)).mono Ya)).mono Yb)
      (fun p' ht=>by rw[hFJ]at ht;exact(hp.b5 (zmy HBf.out HBg.out hx ht)).mono Yb) hlen
     rw[HStep.out]at h;exact h
    have HCe:Hid (∀X,Below wr.heap.size wr X->X.cell? ⟨tb,0,none⟩=some (.slice sa sn sc)/\X.cell? ⟨tb,1,none⟩=some (.bool sb)/\X.cell? ⟨tb,2,none⟩=some (.slice san snn scn)/\X.cell? ⟨tb,3,none⟩=some (.slice sad snd scd)/\tb<X.heap.size/\
      X.cell? ⟨w.heap.size+1,0,none⟩=some (.slice (some ⟨bF,oF,none⟩) g.ts.length cG)/\w.heap.size+1<X.heap.size/\
      X.cell? ⟨bF,oF+j*4,none⟩=some (.int .i64 (u:Int))/\X.cell? ⟨bF,oF+j*4+1,none⟩=some (.bool (zh p).neg)/\X.cell? ⟨bF,oF+j*4+2,none⟩=some (.slice an' (zh p).num.length cn')/\X.cell? ⟨bF,oF+j*4+3,none⟩=some (.slice ad' (zh p).den.length cd')/\bF<X.heap.size):=fun X hb=>by
     have hT:=HTr.out.below hb;have h0:=hbxs.bx.below hb;exact⟨h0.c0,h0.c1,h0.c2,h0.c3,h0.lt,by rw[<- haF];exact hT.gb.c0,hT.gb.lt,(hb.cell hbF).trans e0,(hb.cell hbF).trans e1,(hb.cell hbF).trans e2,(hb.cell hbF).trans e3,Zd hbF hb.size⟩
    rw[haF];rw[haF]at g0;have HXx:=hid hx;clear hx hrc e0 e1 e2 e3 hbxs HA1 hFJ hFK hcan hlen HA
    go_upto_region 5 with fail
    clear g0 g1 g2 g3 gf glt
    refine zv 14 Yc Yc Yc Yc Yb (zcm wr.heap.size wr) (fun w w'=>Below w.heap.size w w') (GQ [.val (.agg #[.slice sa sn sc,.bool sb,.slice san snn scn,.slice sad snd scd]),.val (.pointer (some ⟨w.heap.size+1,0,none⟩)),.val (.slice (some ⟨bF,oF,none⟩) g.ts.length cG),.val (.int .i64 (j:Int)),.val (.pointer (some ⟨bF,oF+j*4,none⟩)),.val (.pointer (some ⟨bF,oF+j*4,none⟩)),.val (.int .i64 (u:Int)),.val (.pointer (some ⟨w.heap.size+1,0,none⟩)),.val (.slice (some ⟨bF,oF,none⟩) g.ts.length cG),.val (.int .i64 (j:Int)),.val (.pointer (some ⟨bF,oF+j*4,none⟩)),.val (.pointer (some ⟨bF,oF+j*4+1,none⟩)),.val (.agg #[.bool (zh p).neg,.slice an' (zh p).num.length cn',.slice ad' (zh p).den.length cd']),.frm FK]) (fun i v w w' h hb=>zaV h hb) (zcm.start (Za _)) ?_ ?_
    ·intro ops;simp only[Zm,Zv,zbM]
     refine⟨?v0,?v1,?v2,?v3,?v4,?v5,?v6,?v7,?v8,?v9,?v10,?v11,?v12,?_,trivial⟩
     all_goals (intro y' X hR hL;have hB:=hR.base;obtain⟨t0,t1,t2,t3,tlt,g0,glt,e0,e1,e2,e3,elt⟩:=HCe.out X hR.be;simp only[zbd,Region.binds,Zj,Ze,Zi,GQ,Zc,Zb]at hL;simp[zg,Act.put])
     case v0|v1|v2|v3|v4|v5|v6|v7|v8|v9|v10|v11|v12=>
      exact Om
     ·try simp only[hL]
      clear hL;have HR:=hid hR;clear hR;have HCt:=hid (HPl.out X HR.out.be);exact Uh
    ·intro ops y' X hR hL;have hB:=hR.base;have J13:=hL.2;simp only[GQ,Zc,Zb]at J13;obtain⟨t0,t1,t2,t3,tlt,g0,glt,e0,e1,e2,e3,elt⟩:=HCe.out X hR.be;clear hL;simp only[Zm,Zv,ZD,ZN];simp[zg,Act.put];generalize y' 13=y13 at J13⊢;have HR:=hid hR;clear hR;obtain⟨ra,rn,rc,rb,ran,rnn,rcn,rad,rnd,rcd,rfl⟩:=J13.spell;have HSt:=hid (HA2.out.step (show Below wr.heap.size wr X from HR.out.be) J13.fp);obtain⟨_,_,_,_,hbz⟩:=(HA2.out.below (show Below wr.heap.size wr X from HR.out.be)).ex;obtain⟨s0,s1,s2,s3,sff,slt⟩:=hbz.bx;rw[HFK.out]at HSt;clear J13 hbz t0 t1 t2 t3 tlt g0 glt e0 e1 e2 e3 elt;go_wp2;go_roundw
     case rel=>exact⟨j+1,hlt,Yg,HSt.out⟩
     case measure=>simp[intOf];omega
   ·obtain rfl:j=g.ts.length:=Ya;have hA:=HA.out;rw[ZQ (Za _),<- HRR.out]at hA;obtain⟨sa,sn,sc,sb,san,snn,scn,sad,snd,scd,hbxs⟩:=hA.spell;obtain⟨⟨a',c',e',hcc,htm⟩,hrc⟩:=hbxs.fm;simp only[Value.slice.injEq]at e';obtain⟨rfl,e2,rfl⟩:=e';obtain⟨TS,hTS⟩:∃TS,TS=RR.ts:=⟨_,rfl⟩
    obtain⟨KC,hKC⟩:∃KC,KC=RR.c:=⟨_,rfl⟩
    rw[<- hTS]at htm e2 hcc;rw[<- hKC]at hrc;obtain⟨news,hsrc,_,hel⟩:=ze8.src zbI htm;rw[<- e2]at hsrc hcc;have hsn:sn<=500000:=by
     rw[e2,hTS,HRR.out];have h:=zgl f.ts g.ts;show(zcX f.ts g.ts).length<=500000
     omega
    obtain⟨HSrc,HEl,HRc,HSn,HTS⟩:=hd5 hsrc hel hrc e2.symm (And.intro hTS hKC);have HCe:Hid (∀X,Below wr.heap.size wr X->X.cell? ⟨tb,0,none⟩=some (.slice sa sn sc)/\X.cell? ⟨tb,1,none⟩=some (.bool sb)/\X.cell? ⟨tb,2,none⟩=some (.slice san snn scn)/\X.cell? ⟨tb,3,none⟩=some (.slice sad snd scd)/\tb<X.heap.size):=fun X hb=>by
     have h0:=hbxs.bx.below hb;exact⟨h0.c0,h0.c1,h0.c2,h0.c3,h0.lt⟩
    clear hA hbxs htm hrc hsrc hel hTS hKC e2 hcc HA
    go_upto_region 6 with fail
    clear g0 g1 g2 g3 gf glt
    refine zK 7 Yc Yc Yc Yc Yb (CpJ wr (.pointer (some ⟨tb,0,none⟩)) (.slice sa sn sc) (.pointer (some ⟨tb,1,none⟩)) (.bool sb) (.slice san snn scn) (.slice sad snd scd) sn TS) (fun g=>CpJ.start g) ?_ ?_
    ·intro ops;simp only[Zm,Zv,zbZ]
     refine⟨?_,?_,?_,?_,?_,?_,?_,trivial⟩
     all_goals (intro d y' X hJ hd hW;simp only[zaa,Region.binds,Zj,Ze,Zi,ZK,ZL]at hW)
     ·have HJ:=hid hJ;clear hJ hW;simp[zg,Act.put];go_wp2
      first|exact⟨_,rfl,HJ.out.s0⟩|exact HJ.out.s0
     ·have HJ:=hid hJ;clear hJ hW;simp[zg,Act.put];go_wp2
      first|exact⟨_,rfl,HJ.out.sv (.inl ⟨rfl,rfl⟩)⟩|exact HJ.out.sv (.inl ⟨rfl,rfl⟩)
     ·have h1:d 1=true:=Ye;obtain⟨HJ,HV1⟩:=hd2 hJ (hJ.v1 h1);obtain⟨t0,t1,t2,t3,tlt⟩:=HCe.out X hJ.be;clear hJ hW h1;simp[zg,Act.put];generalize hy1:y' 1=y1;obtain rfl:=hy1.symm.trans HV1.out;go_wp2
      first|exact⟨_,rfl,HJ.out.sv (.inr (.inl ⟨rfl,rfl⟩))⟩|exact HJ.out.sv (.inr (.inl ⟨rfl,rfl⟩))
     ·have h0:d 0=true:=Ye;have h2:d 2=true:=Ye;have HJ:=hid hJ;obtain⟨bb,e0,hbb,hh⟩:=hJ.v0 h0 hd;obtain⟨HV0,HV2,HOe,HD⟩:=hd4 e0 (hJ.v2 h2) (zdJ (T:=84) (size:=4) hh hbb) hd;clear e0 hh hbb hd;clear hJ hW h0 h2;simp[zg,Act.put];generalize hy0:y' 0=y0;obtain rfl:=hy0.symm.trans HV0.out;generalize hy2:y' 2=y2;obtain rfl:=hy2.symm.trans HV2.out
      go_wp2_with (at_builtin;go_loud (refine zZ rfl (.tmp 36) (.tmp 38) 47 47 rfl wr.heap.size 84 (.agg #[.int .i64 0,.bool false,.slice none 0 0,.slice none 0 0]) 4 64 Tryz.underlying47 Tryz.underlying47 Yc rfl Ya (.slice (some ⟨bb,0,none⟩) 0 0) 0 [] rfl HOe.out sa sn sc news rfl (HSrc.out.below HJ.out.be) Ya Yh HJ.out.be.size ?_;intro v' w5 hown hg hnx;have HS3:=hid (zqO HJ.out HD.out HSn.out HEl.out hsn HOe.out hown hg);obtain⟨b5,c5,rfl,_⟩:=zc4 hown;clear hown hg hnx))
      rw[ZO]at HS3⊢
      first|exact⟨_,rfl,HS3.out⟩|exact HS3.out
     ·have HJ:=hid hJ;clear hJ hW;simp[zg,Act.put];go_wp2
      first|exact⟨_,rfl,HJ.out.sv (.inr (.inr (.inl ⟨rfl,rfl⟩)))⟩|exact HJ.out.sv (.inr (.inr (.inl ⟨rfl,rfl⟩)))
     ·have h4:d 4=true:=Ye;obtain⟨HJ,HV4⟩:=hd2 hJ (hJ.v4 h4);obtain⟨t0,t1,t2,t3,tlt⟩:=HCe.out X hJ.be;clear hJ hW h4;simp[zg,Act.put];generalize hy4:y' 4=y4;obtain rfl:=hy4.symm.trans HV4.out;go_wp2
      first|exact⟨_,rfl,HJ.out.sv (.inr (.inr (.inr ⟨rfl,rfl⟩)))⟩|exact HJ.out.sv (.inr (.inr (.inr ⟨rfl,rfl⟩)))
     ·have h3:d 3=true:=Ye;have h5:d 5=true:=Ye;have HJ:=hid hJ;obtain⟨b3,c3,e3,l3,tm3⟩:=hJ.v3 h3;obtain⟨HV3,HV5,HTm,HH3⟩:=hd4 e3 (hJ.v5 h5) tm3 h3;clear e3 tm3;clear hJ hW h3 h5;simp[zg,Act.put];generalize hy3:y' 3=y3;generalize hy5:y' 5=y5;obtain rfl:=hy3.symm.trans HV3.out;obtain rfl:=hy5.symm.trans HV5.out;go_wp2
      first|exact⟨_,rfl,HJ.out.s6 HH3.out l3 HTm.out⟩|exact HJ.out.s6 HH3.out l3 HTm.out
    ·intro ops d y' X hA hJ;obtain⟨b6,c6,e6,l6,tm6⟩:=hJ.v6 (hA 6 Yb);obtain⟨HV6,HBX⟩:=hd2 e6 hJ.be;have hTX:=HTr.out.below hJ.be;have hfm:zai X (.agg #[.slice b6 sn c6,.bool sb,.slice san snn scn,.slice sad snd scd]) RR:=⟨_,_,_,_,rfl,⟨b6,c6,by rw[<- HTS.out.1,HSn.out],by rw[<- HTS.out.1,HSn.out];exact l6,by rw[<- HTS.out.1];exact tm6⟩,by rw[<- HTS.out.2];exact HRc.out.below hJ.be⟩
     have HO:=hid (hfm.ret hTX.nr hTX.bl Ya);obtain⟨r0,r1,r2,r3,rf,rlt⟩:=hTX.rb;clear e6 tm6 hJ hA hTX hfm;simp only[Zm,Zv,ZD,ZN];simp[zg,Act.put];generalize hy6:y' 6=y6;obtain rfl:=hy6.symm.trans HV6.out;go_wp2;exact Zr (by simp[results,Tryz.results48,go_sem,r0,r1,r2,r3,rlt,ZaL rlt]) rfl HO.out
theorem zmF:Bd 1 1 (-1):=⟨Ya,-1,by rw[Zbc];rfl,Yb⟩
theorem zrC{w:World}{vf vg:Value}{f g:zl}{D B C N:Nat}(hf:zai w vf f)(hg:zai w vg g)(bf:BdF D B N f)(bg:BdF D C N g)(hP:Pay D (B+C))(hN:N<=250000):
  Calls Tryz.prog 28 #[vf,vg] w (zaE w (za2 (-1) f g)):=by
 have hsg:BdF D C N (scA (-1) g):=by
  have h:=BdF.sc zmF bg
  rwa [Zah,Zah]at h
 have c1:∀t∈g.ts,zaf (zh t.2) 1048575:=fun t ht=>(hP.b5 ((bg.mem ht).mono Ya)).mono Yb
 have c2:zaf (zh g.c) 1048575:=(hP.b5 (bg.c.mono Ya)).mono Yb;have c3:zaf (zh (-1)) 1048575:=(zmF.le (k:=1) Yb).mono Yb;have c4:∀t∈g.ts,zaf (zh (t.2*(-1))) 1048576:=fun t ht=>by
  have h:=(Bd.zero (B:=0) bg.pos).sub (bg.mem ht);rw[show(0:Rat)-t.2=t.2*(-1) by grind]at h;exact(hP.b5 (h.mono Ya)).mono Yb
 have hlG:g.ts.length<=500000:=by have:=bg.few;omega
 have hcG:=bg.can;have HAd0:Hid (∀(X:World) (v u:Value),zai X v f->zai X u (scA (-1) g)->Calls Tryz.prog 48 #[v,u] X (zaE X (za2 (-1) f g))):=fun X v u h1 h2=>by
  have h:=znU h1 h2 bf hsg hP hN
  rwa [zpf]at h
 obtain⟨aF,cF,fan,fad,fcn,fcd,rfl,hcF,htF,l1,l2,u1,u2⟩:=hf.parts;obtain⟨aG,cG,gan,gad,gcn,gcd,rfl,hcG2,htG,m1,m2,v1,v2⟩:=hg.parts;obtain⟨HF,HG⟩:=hd2 hf hg;obtain⟨RR,hRR⟩:∃RR,RR=za2 (-1) f g:=⟨_,rfl⟩
 obtain⟨SG,hSG⟩:∃SG,SG=scA (-1) g:=⟨_,rfl⟩
 rw[<- hRR,<- hSG]at HAd0;rw[<- hRR];have HT:=hid (zoW.mk' w (.slice aF f.ts.length cF) (.bool (zh f.c).neg) (.slice fan (zh f.c).num.length fcn) (.slice fad (zh f.c).den.length fcd) (.slice aG g.ts.length cG) (.bool (zh g.c).neg) (.slice gan (zh g.c).num.length gcn) (.slice gad (zh g.c).den.length gcd) 53);have HSc0:Hid (∀(X:World) (v u:Value),zai X v g->RatV X u (zh (-1))->Calls Tryz.prog 49 #[v,u] X (zaE X SG)):=fun X v u h1 h2=>by
  rw[hSG];exact zny h1 h2 hcG c1 c2 c3 c4 hlG
 have HOf:Hid (∀X,Calls Tryz.prog 27 #[.int .i64 (-1)] X (zey X (zh (-1)))):=fun X=>by
  have h:=zrV X (-1) Yb Yb;exact h
 clear hf hg bf bg hP htF htG u1 u2 v1 v2 hRR hSG l1 l2 m1 m2 hsg c1 c2 c3 c4 hcG hlG
 go_enter Tryz.func28,Tryz.ntmps28
 go_upto_region 1 with fail
 generalize((w.alloc (.cells #[.slice aF f.ts.length cF,.bool (zh f.c).neg,.slice fan (zh f.c).num.length fcn,.slice fad (zh f.c).den.length fcd] 53)).alloc (.cells #[.slice aG g.ts.length cG,.bool (zh g.c).neg,.slice gan (zh g.c).num.length gcn,.slice gad (zh g.c).den.length gcd] 53)).alloc (.cells #[.slice none 0 0,.bool false,.slice none 0 0,.slice none 0 0] 53)=W3 at *;have HSc:Hid (∀X,Below W3.heap.size W3 X->∀u,RatV X u (zh (-1))->Calls Tryz.prog 49 #[.agg #[.slice aG g.ts.length cG,.bool (zh g.c).neg,.slice gan (zh g.c).num.length gcn,.slice gad (zh g.c).den.length gcd],u] X (zaE X SG)):=fun X hb u hu=>HSc0.out X _ u (HG.out.below (HT.out.bl.trans (hb.mono HT.out.bl.size))) hu
 have HAd:Hid (∀X,Below W3.heap.size W3 X->∀u,zai X u SG->Calls Tryz.prog 48 #[.agg #[.slice aF f.ts.length cF,.bool (zh f.c).neg,.slice fan (zh f.c).num.length fcn,.slice fad (zh f.c).den.length fcd],u] X (zaE X RR)):=fun X hb u hu=>HAd0.out X _ u (HF.out.below (HT.out.bl.trans (hb.mono HT.out.bl.size))) hu
 refine zv 5 Yc Yc Yc Yc Yb (zcm W3.heap.size W3) (fun w w'=>Below w.heap.size w w') (GQ [.val (.agg #[.slice aF f.ts.length cF,.bool (zh f.c).neg,.slice fan (zh f.c).num.length fcn,.slice fad (zh f.c).den.length fcd]),.val (.agg #[.slice aG g.ts.length cG,.bool (zh g.c).neg,.slice gan (zh g.c).num.length gcn,.slice gad (zh g.c).den.length gcd]),.rat (-1),.frm SG,.frm RR]) (fun i v w w' h hb=>zaV h hb) (zcm.start (Za _)) ?_ ?_
 ·intro ops;simp only[Zm,Zv,zbM]
  refine⟨?v0,?v1,?_,?_,?_,trivial⟩
  all_goals (intro y' X hR hL;have hB:=hR.base;have HT2:=hid (HT.out.below hR.be);obtain⟨f0,f1,f2,f3,_,ft⟩:=HT2.out.fb;obtain⟨g0,g1,g2,g3,_,gt⟩:=HT2.out.gb;simp only[zbd,Region.binds,Zj,Ze,Zi,GQ,Zc,Zb]at hL;simp[zg,Act.put])
  case v0|v1=>
   exact Om
  ·try simp only[hL]
   clear hL;have HR:=hid hR;clear hR;have HCt:=hid (HOf.out X);exact Uh
  ·generalize y' 1=y1 at hL⊢;generalize y' 2=y2 at hL⊢;obtain⟨rfl,H2,_,_⟩:=hL;obtain⟨K2,HR⟩:=hd2 H2 hR;clear hR H2;have HCt:=hid (HSc.out X HR.out.be _ K2.out);exact Uh
  ·generalize y' 0=y0 at hL⊢;generalize y' 3=y3 at hL⊢;obtain⟨rfl,H3,_,_⟩:=hL;obtain⟨K3,HR⟩:=hd2 H3 hR;clear hR H3;have HCt:=hid (HAd.out X HR.out.be _ K3.out);exact Uh
 ·intro ops y' X hR hL;have hB:=hR.base;have J4:=hL.2;simp only[GQ,Zc,Zb]at J4;have HT2:=hid (HT.out.below hR.be);obtain⟨f0,f1,f2,f3,_,ft⟩:=HT2.out.fb;obtain⟨g0,g1,g2,g3,_,gt⟩:=HT2.out.gb;clear hL;simp only[Zm,Zv,ZD,ZN];simp[zg,Act.put];generalize y' 4=y4 at J4⊢;have HR:=hid hR;clear hR;have HV:=hid J4;obtain⟨a5,c5,n5,d5,e5,g5,rfl,_⟩:=J4.parts;clear J4 f0 f1 f2 f3 ft g0 g1 g2 g3 gt;obtain⟨r0,r1,r2,r3,rf,rlt⟩:=HT2.out.rb;have HO:=hid (HV.out.ret HT2.out.nr HT2.out.bl Ya);clear HV;go_wp2;exact Zr (by simp[results,Tryz.results28,go_sem,r0,r1,r2,r3,rlt,ZaL rlt]) rfl HO.out
structure SP where
 p:Value->World->Prop
 keep:∀v w w',p v w->Below w.heap.size w w'->p v w'
def GP(L:List SP)(i:Nat)(v:Value)(w:World):Prop:=match L[i]? with|some s=>s.p v w|none=>True
theorem zd0{L:List SP}{i:Nat}{v:Value}{w w':World}(h:GP L i v w)(hb:Below w.heap.size w w'):GP L i v w':=by
 unfold GP at h⊢
 split
 ·rename_i s e
  rw[e]at h;exact s.keep _ _ _ h hb
 ·trivial
def SP.val(x:Value):SP:=⟨fun v _=>v=x,fun _ _ _ h _=>h⟩
def SP.frm(f:zl):SP:=⟨fun v w=>zai w v f,fun _ _ _ h hb=>h.below hb⟩
def SP.rat(x:zaI):SP:=⟨fun v w=>RatV w v x,fun _ _ _ h hb=>h.below hb⟩
def SP.tru(P:Prop)(b:Bool):SP:=⟨fun v _=>v=.bool b/\P,fun _ _ _ h _=>h⟩
def zsh(w:World)(v:Value)(G:zdF)(e:Int):Prop:=∃u,v=.tuple #[u,.int .i64 e]/\zdx w u G
def SP.tup(G:zdF)(e:Int):SP:=⟨fun v w=>zsh w v G e,fun _ _ _ ⟨u,h,k⟩ hb=>⟨u,h,k.below hb⟩⟩
def SP.grv(G:zdF):SP:=⟨fun v w=>zdx w v G,fun _ _ _ h hb=>h.below hb⟩
