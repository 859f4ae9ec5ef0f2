/-
  Contracts: RkM, LwD.
-/
import Derived.Test.YtfgmmghmmfmdgaaGreatY28
import Derived.Test.YtfgmmghmmfmdgaaGreatY0
set_option linter.all false
set_option maxRecDepth 100000
set_option maxHeartbeats 3200000
namespace Go.Proofs.YtfgmmghmmfmdgaaGreat
open Go.RowKit
open Go.Lib (hid)
variable {P:Prop}
theorem To(h:P:=by go_wp2;refine Zr (v:=.tuple #[.agg #[.int .i64 0,.slice none 0 0,.slice none 0 0],.int .i64 8]) Y7 rfl ?_;exact zcv HF.out HB2.out gge):P:=h
theorem T8(h:P:=by
 rw[<- HYl.out];unfold zaF
 cases hY:Y with
 | nil=>rfl
 | cons y r=>rw[Zn Yd,ZaE,Zn Yd];simp
):P:=h
theorem TH(h:P:=by
 simp at hj;subst hj;exact⟨an,ad,cn,cd,by rw[World.cell?_alloc_at _ _ _ _ rfl];rfl,by rw[World.cell?_alloc_at _ _ _ _ rfl];rfl,by rw[World.cell?_alloc_at _ _ _ _ rfl];rfl,⟨an,ad,cn,cd,rfl,b2,b3,b4.below hal,b5.below hal⟩⟩
):P:=h
theorem Y7(h:P:=by simp[results,Tryz.results13,go_sem,g0,g1,g2]):P:=h
def ztm(gG:Nat)(W1:World)(s:List Int)(s7:Value)(wx:World):Prop:=W1=wx/\∃a c n,s7=.slice a n c/\n=s.length/\z9 W1 (Fre gG W1) a s
def ztn(W1:World)(j:Nat)(P:Nat->Prop)(s7:Value)(wx:World):Prop:=W1=wx/\∃f:Nat,s7=.int .i64 (f:Int)/\f<=j/\P f
theorem z9.toFre{w2 wr:World}{gG n:Nat}{U:List zl}{a:Option Addr}{l:List Int}{F:Nat->Prop}(h:z9 w2 F a l)(hb:Below w2.heap.size w2 wr)(hL:LSt wr gG n U)(hg:gG=w2.heap.size):z9 wr (Fre gG wr) a l:=
 ((h.mono (F':=fun b=>b<gG) (fun b hb _=>by rw[hg];exact hb)).below hb).mono fun b _ h=>hL.old h
attribute [local go_sem] run_storeF
theorem zog{w:World}{m:zgt}{a1 a2:Option Addr}(c1 c2:Nat)(h1:z9 w Any a1 m.input)(h2:zaO w a2 m.layers)(hr:∀l∈m.layers,zO l)(hs:∀l∈m.layers,zbC l)(hsm:∀l∈m.layers,zdM l)(hl12:m.layers.length<=12)(hcap:zpG w a2 m.layers):
  Calls Tryz.prog 13 #[.agg #[.slice a1 m.input.length c1,.slice a2 m.layers.length c2]] w (zfl w (zdt m)):=by
 have q1:=h1.len;have q2:=h2.len;obtain⟨H1,HCap,H2,HRg,HSh,HSm⟩:=hd6 h1 hcap h2 hr hs hsm;generalize hR:zdt m=RR;unfold zdt at hR;have HRd:=hid hR;clear h1 h2 hr hs hR hsm hcap
 go_enter Tryz.func13,Tryz.ntmps13
 go_upto_region 1 with fail
 have hb0:=blA w (.cells #[.slice a1 m.input.length c1,.slice a2 m.layers.length c2] 25);have hx:=za1.alloc w (.slice a1 m.input.length c1) (.slice a2 m.layers.length c2) 25;have hs0:(w.alloc (.cells #[.slice a1 m.input.length c1,.slice a2 m.layers.length c2] 25)).heap.size=w.heap.size+1:=Yd;generalize w.alloc (.cells #[.slice a1 m.input.length c1,.slice a2 m.layers.length c2] 25)=W0 at *;have hb1:=blA W0 (.cells #[.int .i64 0,.slice none 0 0,.slice none 0 0] 30);obtain⟨z1,z2,z3,z4,z5⟩:=zkO W0 30;have hgb:znR w (W0.alloc (.cells #[.int .i64 0,.slice none 0 0,.slice none 0 0] 30)) (w.heap.size+1) (.int .i64 0) (.slice none 0 0) (.slice none 0 0):=Ix;have hx:=hx.below hb1;have hbw:Below w.heap.size w (W0.alloc (.cells #[.int .i64 0,.slice none 0 0,.slice none 0 0] 30)):=hb0.trans (hb1.mono Ya);generalize W0.alloc (.cells #[.int .i64 0,.slice none 0 0,.slice none 0 0] 30)=W at *;clear hb0 hb1 z1 z2 z3 z4 z5 hs0;obtain⟨HB0,HX,HGb⟩:=hd3 hbw hx hgb;clear hbw hgb;obtain⟨x0,x1,xf,xlt⟩:=hx
 go_wp2_with fail
 refine(zry c1 c2 (H1.out.below HB0.out) (H2.out.below HB0.out) HRg.out HSh.out).mono ?_
 rintro e w1 ⟨⟨aS,cS,rfl,hI⟩,hb1⟩;obtain⟨HX1,HG1⟩:=hd2 (HX.out.below hb1) (HGb.out.below hb1);have HB1:=htr HB0 hb1;clear hb1 x0 x1 xf xlt HGb HX HB0
 by_cases he:(zab m).2.2=0
 ·have HCO:=hid (zfM.of he)
  rcases zdd m with⟨_,k⟩|⟨hvm,⟨T,hch,hT⟩|⟨k,_⟩⟩
  ·rw[k]at he;simp at he
  ·rw[hT]at hI HRd HCO⊢;rw[Zq rfl]at HRd;simp only at hI HRd HCO⊢;obtain⟨HI,HCh,HTl⟩:=hd3 hI hch hch.1;have hT64:T.length<=64:=V8;obtain⟨HSz,HCn⟩:=hd2 (fun X (hb:Below w1.heap.size w1 X)=>zjP c1 ((H1.out.below HB1.out).below hb)) (zn9 c1 c2 (H1.out.below HB1.out) (H2.out.below HB1.out) HRg.out HSh.out);have hcnt:zht m=(zfK m.layers T,0):=by unfold zht;rw[hT];rfl
   rw[hcnt]at HCn;simp only at HCn;clear hcnt;obtain⟨x0,x1,xf,xlt⟩:=HX1.out;have hvi:zm m.input=true:=by
    unfold zbl at hvm;simp only[Zw]at hvm;exact hvm.1
   have hin:=zao hvi;have HVi:=hid hvi;clear he hI hch hT hvm hvi;obtain⟨last,hlast⟩:∃last,last=zk m.input T:=⟨_,rfl⟩
   obtain⟨HLast,HSi⟩:=hd2 hlast ((H1.out.below HB1.out).mono (F':=Any) (fun _ _ _=>trivial));clear hlast;obtain⟨nun,hnun⟩:∃nun,nun=zfK m.layers T:=⟨_,rfl⟩
   rw[<- hnun]at HCn;have HNun:=hid hnun;clear hnun
   go_wp2_with fail
   refine HCn.out.mono ?_
   rintro e w2 ⟨rfl,hb2⟩;have HSz2:=hid (HSz.out w2 hb2);have HB2:=htr HB1 hb2;obtain⟨HG2,HX2,HI2,HSi2⟩:=hd4 (HG1.out.below hb2) (HX1.out.below hb2) (HI.out.below hb2) (HSi.out.below hb2);clear hb2 x0 x1 xf xlt HSz HCn HI HSi HX1 HG1 HB1;obtain⟨x0,x1,xf,xlt⟩:=HX2.out
   go_upto_if 36 with fail
   go_cut [9] (fun s9 wx=>zlY w2 last s9 wx)
   case first=>
    by_cases hT0:T.length=0
    ·have q0:decide ((0:Int)<(T.length:Int))=false:=Zo Ya;have E:Hid (last=m.input):=by
      unfold Hid;rw[HLast.out,ZA hT0];rfl
     go_wp2
     go_meet
     exact⟨rfl,a1,c1,_,rfl,VV,by rw[E.out];exact HSi2.out⟩
    ·have q0:decide ((0:Int)<(T.length:Int))=true:=Zk Ya;obtain⟨nT,hnT⟩:∃nT,nT=T.length-1:=⟨_,rfl⟩
     obtain⟨bT,oT,t,aT,ct,haT,tc0,hTi,htc,hIt,hbT,_⟩:=HI2.out.pickc (k:=nT) Ya;exact UW
   case rest=>
    obtain⟨rfl,aL,cL,nL,rfl,hnL,hIL⟩:=hcut;subst hnL;have HRd2:=HRd.out;rw[<- HLast.out,<- HNun.out]at HRd2;obtain⟨nin,hnin⟩:∃nin,nin=zJ m.input:=⟨_,rfl⟩
    obtain⟨nout,hnout⟩:∃nout,nout=zJ last:=⟨_,rfl⟩
    have HSzL2:=hid (zjP cL hIL);rw[<- hnin]at HSz2 HRd2 hin;rw[<- hnout]at HSzL2 HRd2;obtain⟨HRd3,HNin,HNout⟩:=hd3 HRd2 hnin hnout;clear HRd HRd2 hnin hnout hIL;obtain⟨g0,g1,g2,gf,glt,gge,_⟩:=HG2.out
    by_cases ha:256<nin
    ·have qa:decide ((256:Int)<nin)=true:=Zk ha;have HF:Hid (RR=(zei,8)):=by
      have h:=HRd3.out;rw[Zq (.inl ha)]at h;exact h.symm
     clear ha HRd3
     go_wp2_with fail
     refine HSz2.out.mono ?_
     rintro e w2 ⟨rfl,rfl⟩;exact To
    ·have qa:decide ((256:Int)<nin)=false:=Zo ha
     go_wp2_with fail
     refine HSz2.out.mono ?_
     rintro e w2 ⟨rfl,rfl⟩
     by_cases hb:1024<nun
     ·have qb:decide ((1024:Int)<nun)=true:=Zk hb;have HF:Hid (RR=(zei,8)):=by
       have h:=HRd3.out;rw[Zq (.inr (.inl hb))]at h;exact h.symm
      clear hb HRd3;exact To
     ·have qb:decide ((1024:Int)<nun)=false:=Zo hb
      go_wp2_with fail
      refine HSzL2.out.mono ?_
      rintro e w3 ⟨rfl,rfl⟩
      by_cases hc:256<nout
      ·have qc:decide ((256:Int)<nout)=true:=Zk hc;have HF:Hid (RR=(zei,8)):=by
        have h:=HRd3.out;rw[Zq (.inr (.inr hc))]at h;exact h.symm
       clear hc HRd3;exact To
      ·have qc:decide ((256:Int)<nout)=false:=Zo hc;have HRd4:=HRd3.out;rw[Zh Ya]at HRd4;obtain⟨HRd5,HUn1⟩:=hd2 HRd4 (show nun<=1024 from Ya);clear HRd3 HRd4
       go_upto_region 9 with fail
       obtain⟨nI,rfl⟩:=Za8 (show 0<=nin from Ya);have hnI:1<=nI/\nI<=256:=Ya;have HNI:=hid hnI;clear qa qb qc ha hb hc hin
       go_wp2_with fail
       refine HSz2.out.mono ?_
       rintro e w3 ⟨rfl,rfl⟩;have hgs:=HG2.out.lt;have HL3:=hid (LSt.make w2 nI 30);have b3:=blA w2 (.cells #[.int .i64 (nI:Int),.slice none 0 0,.slice none 0 0] 30);have hs3:(w2.alloc (.cells #[.int .i64 (nI:Int),.slice none 0 0,.slice none 0 0] 30)).heap.size=w2.heap.size+1:=Yd;obtain⟨HX3,HB3,HS3⟩:=hd3 (HX2.out.below b3) b3 hs3;clear b3 hs3 HSz2 HSzL2 x0 x1 xf xlt g0 g1 g2 gf glt gge
       go_upto_region 11 with fail
       generalize w2.alloc (.cells #[.int .i64 (nI:Int),.slice none 0 0,.slice none 0 0] 30)=W3 at *;obtain⟨gG,hgG⟩:∃gG,gG=w2.heap.size:=⟨_,rfl⟩
       rw[<- hgG]at HL3 HB3;have HGg:=hid hgG;clear hgG;rw[<- HGg.out];go_wp2
       go_loopw [11,12] (fun v i wr=>∃(k:Nat) (a:Option Addr) (c:Nat),k<=nI/\v=.slice a k c/\i=.int .i64 (k:Int)/\Hid (zdZ W3 wr (.slice a k c) (zu k))) (fun _ i _=>nI-(intOf i).toNat)
       case atStart=>exact⟨0,none,0,Zs _,rfl,rfl,zdZ.start W3⟩
       case round=>
        obtain⟨k,a,c,hk,rfl,rfl,HO⟩:=hrel;have hLr:=HL3.out.below HO.out.bl;have g0:=hLr.g0;have glt:=hLr.lt;clear hLr
        by_cases hlk:k<nI
        ·have HVar:=hid (fun X=>zna X k);have HStep:Hid (zu (k+1)=zu k++[za4 k]):=by simp[Hid,zu,Zad]
         have HLk:Hid ((zu k).length=k):=by simp[Hid,zu]
         have hk1:=HNI.out.2;obtain⟨V,hV⟩:∃V,V=za4 k:=⟨_,rfl⟩
         rw[<- hV]at HVar HStep;clear hV
         go_wp2_with fail
         refine(HVar.out _).mono ?_
         rintro e w5 ⟨v5,rfl,hv,hb⟩;obtain⟨na,nn,nc,nb,nan,nnn,ncn,nad,nnd,ncd,rfl⟩:=hv.spell;have hal:=blA w5 (.cells #[.slice na nn nc,.bool nb,.slice nan nnn ncn,.slice nad nnd ncd] 53);obtain⟨HOw,HRow⟩:=hd2 ((HO.out.below hb).below hal) (zdp.form hv.fp 53);clear hv hb hal g0 glt HVar
         go_wp2_with (at_builtin;refine apF rfl (.tmp 67) (.tmp 70) rfl W3.heap.size (.slice a k c) k (zu k) HLk.out rfl HOw.out.own _ V HRow.out rfl Ya HOw.out.bl.size ?_;intro b3 k3 w3 hown hk3 hg hbe hnx;have HO3:=hid (show zdZ W3 w3 (.slice b3 (k+1) k3) (zu (k+1))from⟨Xl,HOw.out.bl.trans hbe⟩);clear hown hg hbe hnx)
         go_roundw
         case rel=>exact⟨k+1,b3,k3,hlk,rfl,Yg,HO3.out⟩
         case measure=>simp[intOf];omega
        ·have hkn:nI=k:=Ya;subst hkn;have hvl:(zu nI).length=nI:=by simp[zu]
         have hnc:nI<=c:=by
          obtain⟨a',c',e,hc⟩:=HO.out.own.form;simp only[Value.slice.injEq]at e;obtain⟨_,e2,e3⟩:=e;omega
         have hX0:=(zfL.of HO.out.own HL3.out HO.out.bl).read VF;have hLr:=HL3.out.below HO.out.bl;have b6:=blA wr (.cells #[.slice a nI c] 28);have hOne:=zb1.one (base:=gG+1) (m:=nI) (c:=c) hLr hX0 hvl hnc (by have:=hLr.lt;omega);have HR6:=hid (show RlB w2 gG nI (wr.alloc (.cells #[.slice a nI c] 28)) [] (.slice (some ⟨wr.heap.size,0,none⟩) 1 1) [zu nI]from⟨hLr.below b6,hOne,HB3.out.trans ((HO.out.bl.trans (b6.mono HO.out.bl.size)).mono (Z6 HL3.out.lt))⟩);clear hX0 hLr b6 hOne HO
         go_upto_region 17 with fail
         obtain⟨aT0,haT0⟩:∃aT0:Option Addr,aT0=some ⟨wr.heap.size,0,none⟩:=⟨_,rfl⟩
         rw[<- haT0]at HR6⊢;clear haT0;generalize wr.alloc (.cells #[.slice a nI c] 28)=W6 at *;have HQ0:Hid (LwQ nI m.input [] [] [] 1 1 1280):=LwQ.start HNin.out (by have:=HNI.out;omega);have HTot:Hid (((zav nI m.input (zu nI) [] [] [] m.layers).1.length:Int)<=1024):=by
          unfold Hid;rw[zis HNin.out HCh.out,<- HNun.out];exact HUn1.out
         have hbl6:Below w2.heap.size w2 W6:=by have h:=HR6.out.bl;rw[HGg.out]at h;exact h
         obtain⟨x0,x1,xf,xlt⟩:=HX2.out.below hbl6;clear hbl6;go_wp2;clear x0 x1 xf xlt
         go_loopw [13,14] (fun v i wr=>∃(j:Nat) (U:List zl) (Y:List (List zl)) (D' B':Nat) (aT:Option Addr) (cT:Nat),j<=m.layers.length/\v=.slice aT (j+1) cT/\i=.int .i64 (j:Int)/\Hid (RlB w2 gG nI wr U (.slice aT (j+1) cT) (zu nI::Y))/\
          Hid (Y.length=j)/\Hid (LwQ nI m.input (T.take j) U Y D' B' 1280)/\Hid (zgw (12-j) D' B')/\
          Hid (zav nI m.input (zu nI) (T.take j) Y U (m.layers.drop j)=zav nI m.input (zu nI) [] [] [] m.layers)) (fun _ i _=>m.layers.length-(intOf i).toNat)
         case atStart=>exact⟨0,[],[],1,1,aT0,1,Zs _,rfl,rfl,HR6.out,rfl,HQ0.out,zkg,rfl⟩
         case round=>
          obtain⟨j,U,Y,D',B',aT,cT,hj,rfl,rfl,HR,HYl,HQ,HRm,HTq⟩:=hrel;clear HR6 HQ0;have HB:Hid (Below w2.heap.size w2 wr):=by have h:=HR.out.bl;rw[HGg.out]at h;exact h
          obtain⟨x0,x1,xf,xlt⟩:=HX2.out.below HB.out
          by_cases hlt:j<m.layers.length
          ·have hbw:=HB2.out.trans (HB.out.mono HB2.out.size);obtain⟨bl,ol,l,ha2,hbl,hl,b1,b2,d1,d2,⟨l0,l1,l2,l3,l4,l5,l6,l7,l8⟩,r1,r2⟩:=H2.out.pick hlt;have hcp:l.weights.length<=d1:=HCap.out bl ol j l b1 _ d1 ha2 hl l7;have hc9:=fun o=>hbw.cell (p:=⟨bl,o,none⟩) hbl
           have l0:=(hc9 _).trans l0;have l1:=(hc9 _).trans l1;have l2:=(hc9 _).trans l2;have l3:=(hc9 _).trans l3;have l4:=(hc9 _).trans l4;have l5:=(hc9 _).trans l5;have l6:=(hc9 _).trans l6;have l7:=(hc9 _).trans l7;have l8:=(hc9 _).trans l8;have hbl2:=Zd hbl hbw.size;have hmem:=Zt hl;have hTj:T[j]? =some (T[j]' Y4):=Zn _;have hout:=HCh.out.2 j _ l hTj hl;rw[ZaP]at hout;have hdrop:m.layers.drop j=l::m.layers.drop (j+1):=UP;have hq:=HTq.out;rw[hdrop]at hq;have hf0:(zY m.input (T.take j) l).2=0:=by rw[hout]
           obtain⟨hfit,hnum,h7⟩:=zfz hf0;obtain⟨hcx,hcB⟩:=HQ.out.curr;have hvc:zm (zk m.input (T.take j))=true:=U8;obtain⟨LY,hLY⟩:∃LY,LY=zam nI U l (zk m.input (T.take j)) (zaF (zu nI) Y) (zbs (zu nI) Y l.frm):=⟨_,rfl⟩
           have hq2:zav nI m.input (zu nI) (T.take (j+1)) (Y++[LY.2]) LY.1 (m.layers.drop (j+1))=zav nI m.input (zu nI) [] [] [] m.layers:=TX;have hNb:nI+LY.1.length<=1280:=Tk;obtain⟨kk,k1,k2,k3⟩:=HQ.out.step hf0 (HSm.out l hmem) hvc (by rw[<- hLY];exact hNb);rw[hout,<- hLY,show T.take j++[T[j]' Y4]=T.take (j+1) by rw[Zat,hTj];rfl]at k3;have hsz2:=zao hvc;have hLr:=HR.out.un;have hf7:l.kind=7->(zbs (zu nI) Y l.frm).length=(zaF (zu nI) Y).length/\∃fr1:Nat,l.frm+1=(fr1:Int)/\fr1<Y.length+1/\(zu nI::Y)[fr1]? =some (zbs (zu nI) Y l.frm):=fun hk7=>by
            obtain⟨g1,g2,g3⟩:=h7 hk7;exact HQ.out.flen g1 g2 g3
           have hcj:(zu nI::Y)[j]? =some (zaF (zu nI) Y):=T8;obtain⟨bT,aX,cX,haT,hbT,tcX,hrX⟩:=HR.out.own.at' hcj;have HLay:Hid (∀(X:World) (aI:Option Addr) (cI:Nat) (aY:Option Addr) (nY cY:Nat),Stp gG wr X->LSt X gG nI U->z9 X (Fre gG X) aI (zk m.input (T.take j))->(l.kind=7->zci gG X aY (zbs (zu nI) Y l.frm)/\(zbs (zu nI) Y l.frm).length=nY/\(zaF (zu nI) Y).length<=nY)->
             Calls Tryz.prog 37 #[.pointer (some ⟨gG,0,none⟩),zch l.kind l.frm l.out l.kh l.kw l.stride l.pad b1 l.weights.length d1 b2 l.bias.length d2,.slice aI (zk m.input (T.take j)).length cI,.slice aX (zaF (zu nI) Y).length cX,.slice aY nY cY] X (zpF gG nI X LY.1 LY.2)):=
            fun X aI cI aY nY cY hs hu hi h7'=>by
             have hB0:Below gG wr X:=hs.below hLr;have hb0:Below w.heap.size w X:=hbw.trans (hB0.mono KS);rw[hLY]at hNb⊢;exact zoS d1 d2 cI cX cY hu hfit hnum hcx Ya Ya hcp (r1.below hb0) (r2.below hb0) hi (hrX.stp hLr hs) h7' (HSm.out l hmem) hcB (HQ.out.frm l.frm) HQ.out.hD HQ.out.hB HRm.out.now Ya hNb
           obtain⟨HQ2,K1,K2,K3,HF7,HYy⟩:=hd6 hq2 k1 k2 k3 hf7 (fun(hk7:l.kind=7)=>(hf7 hk7).1);obtain⟨HXr,HTx⟩:=hd2 hrX tcX;have HcX:Hid (j<64):=by have h1:=HCO.out.len;have h2:=hT64;rw[<- h1]at hlt;unfold Hid;omega
           obtain⟨HhT,HLl⟩:=hd2 haT (And.intro l0 (And.intro l1 (And.intro l2 (And.intro l3 (And.intro l4 (And.intro l5 (And.intro l6 (And.intro l7 l8))))))));clear hq2 k1 k2 k3 hf7 h7 hfit hnum hcx hcB hvc hsz2 hf0 hdrop hq hTj hmem hout hc9 hLY hNb r1 r2 hcp hcj hrX tcX l2 l3 l4 l5 l6 l7 l8
           go_upto_if 84 with fail
           go_cut [15] (fun s15 wx=>ztm gG wr (zk m.input (T.take j)) s15 wx)
           case first=>
            by_cases hj0:j=0
            ·subst hj0;have q0:decide ((0:Int)<((0:Nat):Int))=false:=rfl;go_wp2
             go_meet
             exact⟨rfl,a1,c1,_,rfl,rfl,HSi2.out.toFre HB.out hLr HGg.out⟩
            ·have q0:decide ((0:Int)<(j:Int))=true:=Zk Ya;obtain⟨j1,hj1⟩:∃j1,j=j1+1:=⟨j-1,Ya⟩
             obtain⟨bS,oS,t,aT',ct,haS,tc0,hTi,htc,hIt,hbS,_⟩:=HI2.out.pickc (k:=j1) Xp;have E:Hid (zk m.input (T.take j)=t):=by
              unfold Hid zk;rw[List.getLast?_take,Zh Ya,show j-1=j1 from Ya,hTi];rfl
             have HIt:=hid (hIt.mono (F':=Any) (fun _ _ _=>trivial));have tc0:=(HB.out.cell (p:=⟨bS,oS+j1,none⟩) hbS).trans tc0;have hbS2:=Zd hbS HB.out.size;have m0:(j:Int)-1=(j1:Int):=Ya;have hnl:j1<T.length:=Xp;subst haS;clear hIt hTi htc;go_wp2
             go_meet
             exact⟨rfl,aT',ct,_,rfl,VV,by rw[E.out];exact HIt.out.toFre HB.out hLr HGg.out⟩
           case rest=>
            obtain⟨rfl,aI,cI,nI2,rfl,hnI2,hII⟩:=hcut;subst hnI2;have HII:=hid hII;clear hII;have hk7i:decide (l.kind=7)=true∨decide (l.kind=7)=false:=by by_cases h:l.kind=7<;>simp[h]
            subst ha2
            go_upto_if 96 with fail
            go_cut [16] (fun s16 wx=>ztn wr j (fun f=>l.kind=7->(zu nI::Y)[f]? =some (zbs (zu nI) Y l.frm)) s16 wx)
            case first=>
             by_cases hk7:l.kind=7
             ·obtain⟨_,fr1,g1,g2,g3⟩:=HF7.out hk7;have q0:decide (l.kind=7)=true:=Zk hk7;have q1:(l.kind==7)=true:=by rw[hk7];rfl
              have hYj:=HYl.out;have hj64:=HcX.out;have m0:IntKind.i64.wrap (l.frm+1)=(fr1:Int):=by rw[g1];exact IntWalk.i64_in _ Ya
              have m1:wrap64 (l.frm+1)=(fr1:Int):=by rw[g1];exact IntWalk.wrap64_in _ Ya
              go_wp2
              go_meet
              exact⟨rfl,fr1,by first|rfl|(rw[m1])|(rw[m0]),Ya,fun _=>g3⟩
             ·have q0:decide (l.kind=7)=false:=Zo hk7;have q1:(l.kind==7)=false:=by rw[Z7];exact hk7
              go_wp2
              go_meet
              exact⟨rfl,0,rfl,Ya,fun h=>absurd h hk7⟩
            case rest=>
             obtain⟨rfl,fr1,rfl,hfj,hfP⟩:=hcut;have hfl:fr1<(zu nI::Y).length:=by rw[ZJ,HYl.out];omega
             obtain⟨yv,hyv⟩:∃yv,yv=(zu nI::Y)[fr1]'hfl:=⟨_,rfl⟩
             have hyf:(zu nI::Y)[fr1]? =some yv:=by rw[hyv];exact Zn hfl
             obtain⟨bT2,aY,cY,haT2,_,tcY,hrY⟩:=HR.out.own.at' hyf;have haT:=HhT.out;rw[haT]at haT2;obtain rfl:bT=bT2:=by cases haT2;rfl
             have hFT:=HR.out.own.fr bT (by rw[haT];rfl);have tcX:=HTx.out;rw[ZO]at tcX tcY;obtain⟨l0,l1,l2,l3,l4,l5,l6,l7,l8⟩:=HLl.out;have hwg:w.heap.size<gG:=by have h1:=HX2.out.lt;have h2:=HGg.out;omega
             have hblg:bl<gG:=KS;have HCe:Hid (∀X,Stp gG wr X->X.cell? ⟨w.heap.size,1,none⟩=some (.slice (some ⟨bl,ol,none⟩) m.layers.length c2)/\w.heap.size<X.heap.size/\
               X.cell? ⟨bl,ol+j*9,none⟩=some (.int .i64 l.kind)/\X.cell? ⟨bl,ol+j*9+1,none⟩=some (.int .i64 l.frm)/\X.cell? ⟨bl,ol+j*9+2,none⟩=some (.int .i64 l.out)/\X.cell? ⟨bl,ol+j*9+3,none⟩=some (.int .i64 l.kh)/\X.cell? ⟨bl,ol+j*9+4,none⟩=some (.int .i64 l.kw)/\
               X.cell? ⟨bl,ol+j*9+5,none⟩=some (.int .i64 l.stride)/\X.cell? ⟨bl,ol+j*9+6,none⟩=some (.int .i64 l.pad)/\X.cell? ⟨bl,ol+j*9+7,none⟩=some (.slice b1 l.weights.length d1)/\X.cell? ⟨bl,ol+j*9+8,none⟩=some (.slice b2 l.bias.length d2)/\bl<X.heap.size/\
               X.cell? ⟨bT,j,none⟩=some (.slice aX (zaF (zu nI) Y).length cX)/\X.cell? ⟨bT,fr1,none⟩=some (.slice aY yv.length cY)/\bT<X.heap.size):=fun X hs=>by
              have hB0:Below gG wr X:=hs.below hLr;have e:=fun o=>hB0.cell (p:=⟨bl,o,none⟩) hblg
              exact⟨(hB0.cell (p:=⟨w.heap.size,1,none⟩) hwg).trans x1,Zd xlt hs.size,(e _).trans l0,(e _).trans l1,(e _).trans l2,(e _).trans l3,(e _).trans l4,(e _).trans l5,(e _).trans l6,(e _).trans l7,(e _).trans l8,
               Zd hblg (Zl (Z6 hLr.lt) hs.size),(hFT.cell hs).trans tcX,(hFT.cell hs).trans tcY,Zd hFT.lt hs.size⟩
             have HCall:Hid (∀X,Stp gG wr X->LSt X gG nI U->Calls Tryz.prog 37 #[.pointer (some ⟨gG,0,none⟩),zch l.kind l.frm l.out l.kh l.kw l.stride l.pad b1 l.weights.length d1 b2 l.bias.length d2,.slice aI (zk m.input (T.take j)).length cI,.slice aX (zaF (zu nI) Y).length cX,.slice aY yv.length cY] X (zpF gG nI X LY.1 LY.2)):=
              fun X hs hu=>HLay.out X aI cI aY yv.length cY hs hu (HII.out.stp1 hs) (fun hk7=>by
               have h:=hfP hk7;rw[hyf]at h;have h:=Option.some.inj h;rw[<- h];exact⟨hrY.stp hLr hs,rfl,by have:=HYy.out hk7;rw[<- h]at this;omega⟩)
             unfold zch at HCall;obtain⟨LU,LX⟩:=LY;simp only at HCall K3 HQ2;have HYm:Hid ((zu nI::Y).length=j+1):=JH;have hjI:(j:Int)<(m.layers.length:Int):=Ya;have hfI:(fr1:Int)<((j:Int)+1):=Ya;subst haT;have hj64:=HcX.out;clear l0 l1 l2 l3 l4 l5 l6 l7 l8 tcX tcY hrY hyf hyv hfP hFT hwg hblg x0 x1 xf xlt HLay HTx HLl haT2
             go_upto_region 26 with fail
             refine zK 17 Yc Yc Yc Yc Yb (zi9 (gG:=gG) nI wr U LU 15 [.val (.slice (some ⟨bT,0,none⟩) (j+1) cT),.val (.pointer (some ⟨w.heap.size,1,none⟩)),.val (.slice (some ⟨bl,ol,none⟩) m.layers.length c2),.val (.int .i64 (j:Int)),.val (.pointer (some ⟨bl,ol+j*9,none⟩)),.val (.agg #[.int .i64 l.kind,.int .i64 l.frm,.int .i64 l.out,.int .i64 l.kh,.int .i64 l.kw,.int .i64 l.stride,.int .i64 l.pad,.slice b1 l.weights.length d1,.slice b2 l.bias.length d2]),.val (.slice aI (zk m.input (T.take j)).length cI),.val (.slice (some ⟨bT,0,none⟩) (j+1) cT),.val (.int .i64 (j:Int)),.val (.pointer (some ⟨bT,j,none⟩)),.val (.slice aX (zaF (zu nI) Y).length cX),.val (.slice (some ⟨bT,0,none⟩) (j+1) cT),.val (.int .i64 (fr1:Int)),.val (.pointer (some ⟨bT,fr1,none⟩)),.val (.slice aY yv.length cY),.row LX,.one LX]) (fun g=>zi9.start YC g) ?_ ?_
             ·intro ops;simp only[Zm,Zv,zbZ]
              refine⟨?v0,?v1,?_,?v3,?_,?_,?v6,?v7,?v8,?_,?_,?v11,?v12,?_,?_,?_,?_,trivial⟩
              case v0|v1|v3|v6|v7|v8|v11|v12=>
               exact O5
              ·intro d y' X hJ hd hW;obtain⟨x1,xlt,l0,l1,l2,l3,l4,l5,l6,l7,l8,llt,tx,ty,tlt⟩:=HCe.out X hJ.st;simp only[zaa,Region.binds,Zj,Ze,Zi,ZK,ZL]at hW;have h1:d 1=true:=Ye;have J1:=hJ.all 1 h1;simp only[GW,SQ.val,SQ.row,SQ.one,Zc,Zb]at J1;simp[zg,Act.put];generalize hg1:y' 1=y1;rw[hg1]at J1;clear hg1;obtain rfl:=J1;have HJ:=hid hJ;clear hJ hd hW h1;exact Ui
              ·intro d y' X hJ hd hW;simp only[zaa,Region.binds,Zj,Ze,Zi,ZK,ZL]at hW;have h2:d 2=true:=Ye;have h3:d 3=true:=Ye;have J2:=hJ.all 2 h2;have J3:=hJ.all 3 h3;simp only[GW,SQ.val,SQ.row,SQ.one,Zc,Zb]at J2 J3;simp[zg,Act.put];generalize hg2:y' 2=y2;rw[hg2]at J2;generalize hg3:y' 3=y3;rw[hg3]at J3;clear hg2;obtain rfl:=J2;clear hg3;obtain rfl:=J3;have HJ:=hid hJ;clear hJ hd hW h2 h3;exact Ui
              ·intro d y' X hJ hd hW;obtain⟨x1,xlt,l0,l1,l2,l3,l4,l5,l6,l7,l8,llt,tx,ty,tlt⟩:=HCe.out X hJ.st;simp only[zaa,Region.binds,Zj,Ze,Zi,ZK,ZL]at hW;have h4:d 4=true:=Ye;have J4:=hJ.all 4 h4;simp only[GW,SQ.val,SQ.row,SQ.one,Zc,Zb]at J4;exact IW
              ·intro d y' X hJ hd hW;simp only[zaa,Region.binds,Zj,Ze,Zi,ZK,ZL]at hW;have h7:d 7=true:=Ye;have h8:d 8=true:=Ye;have J7:=hJ.all 7 h7;have J8:=hJ.all 8 h8;simp only[GW,SQ.val,SQ.row,SQ.one,Zc,Zb]at J7 J8;simp[zg,Act.put];generalize hg7:y' 7=y7;rw[hg7]at J7;generalize hg8:y' 8=y8;rw[hg8]at J8;clear hg7;obtain rfl:=J7;clear hg8;obtain rfl:=J8;have HJ:=hid hJ;clear hJ hd hW h7 h8;exact Ui
              ·intro d y' X hJ hd hW;obtain⟨x1,xlt,l0,l1,l2,l3,l4,l5,l6,l7,l8,llt,tx,ty,tlt⟩:=HCe.out X hJ.st;simp only[zaa,Region.binds,Zj,Ze,Zi,ZK,ZL]at hW;have h9:d 9=true:=Ye;have J9:=hJ.all 9 h9;simp only[GW,SQ.val,SQ.row,SQ.one,Zc,Zb]at J9;simp[zg,Act.put];generalize hg9:y' 9=y9;rw[hg9]at J9;clear hg9;obtain rfl:=J9;have HJ:=hid hJ;clear hJ hd hW h9;exact Ui
              ·intro d y' X hJ hd hW;simp only[zaa,Region.binds,Zj,Ze,Zi,ZK,ZL]at hW;have h11:d 11=true:=Ye;have h12:d 12=true:=Ye;have J11:=hJ.all 11 h11;have J12:=hJ.all 12 h12;simp only[GW,SQ.val,SQ.row,SQ.one,Zc,Zb]at J11 J12;simp[zg,Act.put];generalize hg11:y' 11=y11;rw[hg11]at J11;generalize hg12:y' 12=y12;rw[hg12]at J12;clear hg11;obtain rfl:=J11;clear hg12;obtain rfl:=J12;have HJ:=hid hJ;clear hJ hd hW h11 h12;exact Ui
              ·intro d y' X hJ hd hW;obtain⟨x1,xlt,l0,l1,l2,l3,l4,l5,l6,l7,l8,llt,tx,ty,tlt⟩:=HCe.out X hJ.st;simp only[zaa,Region.binds,Zj,Ze,Zi,ZK,ZL]at hW;have h13:d 13=true:=Ye;have J13:=hJ.all 13 h13;simp only[GW,SQ.val,SQ.row,SQ.one,Zc,Zb]at J13;simp[zg,Act.put];generalize hg13:y' 13=y13;rw[hg13]at J13;clear hg13;obtain rfl:=J13;have HJ:=hid hJ;clear hJ hd hW h13;exact Ui
              ·intro d y' X hJ hd hW;simp only[zaa,Region.binds,Zj,Ze,Zi,ZK,ZL]at hW;have h5:d 5=true:=Ye;have h6:d 6=true:=Ye;have h10:d 10=true:=Ye;have h14:d 14=true:=Ye;have J5:=hJ.all 5 h5;have J6:=hJ.all 6 h6;have J10:=hJ.all 10 h10;have J14:=hJ.all 14 h14;simp only[GW,SQ.val,SQ.row,SQ.one,Zc,Zb]at J5 J6 J10 J14;simp[zg,Act.put];generalize hg5:y' 5=y5;rw[hg5]at J5;generalize hg6:y' 6=y6;rw[hg6]at J6;generalize hg10:y' 10=y10;rw[hg10]at J10;generalize hg14:y' 14=y14;rw[hg14]at J14;clear hg5;obtain rfl:=J5;clear hg6;obtain rfl:=J6;clear hg10;obtain rfl:=J10;clear hg14;obtain rfl:=J14;obtain⟨HJ,HUnn⟩:=hd2 hJ (hJ.old hd);clear hJ hd hW h5 h6 h10 h14;have HCt:=hid (HCall.out X HJ.out.st HUnn.out)
               go_wp2_with fail
               refine HCt.out.mono ?_
               rintro e w1 ⟨ra,rc,rfl,kc,kf,kl,kb⟩;obtain⟨KV,KL,KB⟩:=hd3 (show ∃a c,Value.slice ra LX.length rc=.slice a LX.length c/\LX.length<=c/\zci gG w1 a LX from⟨ra,rc,rfl,kc,kf⟩) kl kb;clear kc kf kl kb HCt;exact Ot
              ·intro d y' X hJ hd hW;simp only[zaa,Region.binds,Zj,Ze,Zi,ZK,ZL]at hW;have h15:d 15=true:=Ye;have J15:=hJ.all 15 h15;simp only[GW,SQ.val,SQ.row,SQ.one,Zc,Zb]at J15;simp[zg,Act.put];generalize hg15:y' 15=y15;rw[hg15]at J15;clear hg15;have K15:=hid J15;clear J15;have HJ:=hid hJ;clear hJ hd hW h15;obtain⟨ra,rc,rfl,hrc,hrf⟩:=K15.out;have HBa:=hid ((Zg X.heap.size X).alloc (Za _) (.cells #[.slice ra LX.length rc] 28));have HFr:=hid (HJ.out.un.fresh HBa.out (Za _) Yd);have HCl:Hid ((X.alloc (.cells #[.slice ra LX.length rc] 28)).cell? ⟨X.heap.size,0,none⟩=some (.slice ra LX.length rc)):=by unfold Hid;rw[World.cell?_alloc_at _ _ _ _ rfl];rfl
               obtain⟨HRf,Hrc⟩:=hd2 (hrf.stp HJ.out.un (Stp.of HBa.out HJ.out.un.lt)) hrc;clear K15 hrc hrf;go_wp2
               first|refine⟨_,rfl,?_⟩|skip
               exact HJ.out.step Yb HBa.out ⟨_,ra,rc,rfl,HFr.out,HCl.out,Hrc.out,HRf.out⟩
             ·intro ops d y' X hA hJ;have J0:=hJ.all 0 (hA 0 Yb);have J16:=hJ.all 16 (hA 16 Yb);simp only[GW,SQ.val,SQ.row,SQ.one,Zc,Zb]at J0 J16;obtain⟨x1,xlt,l0,l1,l2,l3,l4,l5,l6,l7,l8,llt,tx,ty,tlt⟩:=HCe.out X hJ.st;obtain⟨HLn,HSn⟩:=hd2 (hJ.new (hA 15 Yb)) hJ.st;clear hJ hA;simp only[Zm,Zv,ZD,ZN];simp[zg,Act.put];generalize y' 0=y0 at J0⊢;obtain rfl:=J0;generalize y' 16=y16 at J16⊢;obtain⟨gs,ra,rc,rfl,hgf,hgc,hrc,hrf⟩:=J16;obtain⟨HR5,HGe,HGc,Hrc,Hrf⟩:=hd5 (HR.out.stp HSn.out HLn.out) (show gG+1<=X.heap.size from HLn.out.lt) hgc hrc hrf;clear hgf hgc hrc hrf x1 xlt l0 l1 l2 l3 l4 l5 l6 l7 l8 llt tx ty tlt
              go_wp2_with (at_builtin;refine zfC rfl (.tmp 104) (.tmp 120) 70 rfl gG nI (gG+1) Tryz.underlying70 Yc (.slice (some ⟨bT,0,none⟩) (j+1) cT) (j+1) (zu nI::Y) LU HYm.out rfl HR5.out.own HR5.out.un LX LX.length rfl ra rc Hrc.out Hrf.out gs HGc.out rfl Ya HGe.out ?_;intro b3 k3 w5 hown hk3 hg;have HR6:=hid (HR5.out.app hown hg);clear hown hg)
              go_roundw
              case rel=>
               refine⟨j+1,LU,Y++[LX],D'*kk,9671406556917033397649408*B',b3,k3,hlt,rfl,Yg,HR6.out,?_,K3.out,?_,HQ2.out⟩
               ·unfold Hid;rw[ZB,HYl.out];rfl
               exact EC
              case measure=>simp[intOf];omega
          ·obtain rfl:j=m.layers.length:=Ya;have hq:=HTq.out;rw[Zbu]at hq;have hq':(U,Y)=zav nI m.input (zu nI) [] [] [] m.layers:=hq;have HF:Hid (RR=(⟨nI,U,zaF (zu nI) Y⟩,0)):=by
            have h:=HRd5.out;rw[ZaM,<- hq']at h;exact h.symm
           have hcj:(zu nI::Y)[m.layers.length]? =some (zaF (zu nI) Y):=T8;obtain⟨OX,hOX⟩:∃OX,OX=zaF (zu nI) Y:=⟨_,rfl⟩
           rw[<- hOX]at HF hcj;have hOl:OX.length<=16384:=UO;have hUl:U.length<=1024:=by
            have h:=HTot.out;rw[<- hq']at h;have h2:(U.length:Int)<=1024:=h;omega
           obtain⟨bT,aX,cX,haT,hbT,tcX,hrX⟩:=HR.out.own.at' hcj;rw[ZO]at tcX;have hal:=blA wr (.cells #[] 53);obtain⟨news,hsrc,_,hel⟩:=ze8.src zaR hrX.at';obtain⟨HSrc,HEl⟩:=hd2 (hsrc.below hal) hel;have HEm:Hid ((wr.alloc (.cells #[] 53)).ownsRow wr.heap.size 53 4 (.slice (some ⟨wr.heap.size,0,none⟩) 0 0) 0 []):=zdJ (zlK wr _) (Za _);obtain⟨HRu,HRb⟩:=hd2 HR.out.un HR.out.bl;have x1':=(hal.cell xlt).trans x1;have xlt':=Zd xlt hal.size;have tcX':=(hal.cell hbT).trans tcX;have hbT':=Zd hbT hal.size;obtain⟨HAl,HOl,HUl⟩:=hd3 hal hOl hUl;have hjI:(m.layers.length:Int)<((m.layers.length:Int)+1):=Ya;have hl64:m.layers.length<=12:=hl12;have hs1:(wr.alloc (.cells #[] 53)).heap.size=wr.heap.size+1:=Yd;rw[haT];clear hq hq' hOX hcj hOl hUl hsrc hel hrX hal HTq HRm HQ HSi2 HTot HR x0 tcX hbT haT
           go_upto_region 27 with fail
           go_upto_region 28 with(at_builtin;(refine zZ rfl (.tmp 122) (.tmp 128) 28 28 rfl wr.heap.size 53 (.agg #[.slice none 0 0,.bool false,.slice none 0 0,.slice none 0 0]) 4 80 Tryz.underlying28 Tryz.underlying28 Yc rfl Ya (.slice (some ⟨wr.heap.size,0,none⟩) 0 0) 0 [] rfl HEm.out aX OX.length cX news rfl HSrc.out VI (by have:=HOl.out;unfold maxLen;omega) Ya ?_;intro v' w5 hown hg hnx;obtain⟨b5,c5,rfl,hc5⟩:=zc4 hown;have hb5:Below wr.heap.size wr w5:=HAl.out.grown hg Ya (fun k hk=>(HEm.out.lt k hk).1);rw[ZO]at hown hc5⊢;rw[ZaP]at hown;have hO:=zi4 hown rfl (fun q x hx=>YK) VI;have HB5:=hid hb5;have hbw:Below gG w2 w5:=HRb.out.trans (hb5.mono (Z6 HRu.out.lt));have hgw:w.heap.size+1<gG:=Nat.lt_of_lt_of_eq HG2.out.lt HGg.out.symm;have HG5:=hid (HG2.out.belowB hbw hgw);have hfin:=zja (c:=c5) HRu.out (by have:=HUl.out;omega) hb5 hO hc5 HG5.out.al (ZaL hgw);have HFin:=hid hfin;have y2:=(HRu.out.below hb5).g2;have yff:=(HRu.out.below hb5).fz;have ylt:=(HRu.out.below hb5).lt;have HBW:=hid hbw;have HGW:=hid hgw;clear hown hg hnx hb5 hO hbw hgw hfin))
           obtain⟨aU,cU,k0,k1,k2,hgr⟩:=HFin.out;have HGr:=hid hgr;have HB6:Hid (Below w.heap.size w (w5.setCell ⟨gG,2,none⟩ (.slice b5 OX.length c5))):=by
            have h1:Below gG w2 (w5.setCell ⟨gG,2,none⟩ (.slice b5 OX.length c5)):=HBW.out.setCell (p:=⟨gG,2,none⟩) (Za _) _;rw[HGg.out]at h1⊢;exact HB2.out.trans (h1.mono HB2.out.size)
           have HG6:Hid (znR w (w5.setCell ⟨gG,2,none⟩ (.slice b5 OX.length c5)) (w.heap.size+1) (.int .i64 0) (.slice none 0 0) (.slice none 0 0)):=HG2.out.belowB (HBW.out.setCell (p:=⟨gG,2,none⟩) (Za _) _) HGW.out;have k3:gG<(w5.setCell ⟨gG,2,none⟩ (.slice b5 OX.length c5)).heap.size:=by simpa using ylt
           clear hgr HFin HG5 HBW y2 yff ylt HB5 HSrc HEl HRu HRb HEm;generalize w5.setCell ⟨gG,2,none⟩ (.slice b5 OX.length c5)=W9 at *;obtain⟨g0,g1,g2,gf,glt,gge,_⟩:=HG6.out;have HPo:Hid (zfl w RR (.returned (.tuple #[.agg #[.int .i64 (nI:Int),.slice aU U.length cU,.slice b5 OX.length c5],.int .i64 0])) (((W9.setCell ⟨w.heap.size+1,0,none⟩ (.int .i64 (nI:Int))).setCell ⟨w.heap.size+1,1,none⟩ (.slice aU U.length cU)).setCell ⟨w.heap.size+1,2,none⟩ (.slice b5 OX.length c5))):=by
            rw[HF.out];exact⟨_,rfl,HGr.out,zdg HB6.out gge _ _ _⟩
           go_wp2
           refine Zr (v:=.tuple #[.agg #[.int .i64 (nI:Int),.slice aU U.length cU,.slice b5 OX.length c5],.int .i64 0]) Y7 rfl ?_
           exact HPo.out
  ·omega
 ·rw[Zh he]at HRd;generalize(zab m).2.2=er at *;generalize(zab m).2.1=ei at *;have t1:(er != 0)=true:=Xa;have HF:=hid HRd.out.symm;obtain⟨g0,g1,g2,gf,glt,gge,_⟩:=HG1.out;clear he hI;go_wp2
  refine Zr (v:=.tuple #[.agg #[.int .i64 0,.slice none 0 0,.slice none 0 0],.int .i64 er]) Y7 rfl ?_
  exact zcv HF.out HB1.out gge
theorem zjR{w:World}{p q:zaI}{an ad bn bd:Option Addr}{cn cd dn dd:Nat}(b2:p.num.length<=cn)(b3:p.den.length<=cd)(b4:zt w an p.num)(b5:zt w ad p.den)(g2:q.num.length<=dn)(g3:q.den.length<=dd)(g4:zt w bn q.num)(g5:zt w bd q.den)(T:Nat):
  zN (w.alloc (.cells #[.bool p.neg,.slice an p.num.length cn,.slice ad p.den.length cd,.bool q.neg,.slice bn q.num.length dn,.slice bd q.den.length dd] T)) (some ⟨w.heap.size,0,none⟩) [p,q]:=by
 have hal:=blA w (.cells #[.bool p.neg,.slice an p.num.length cn,.slice ad p.den.length cd,.bool q.neg,.slice bn q.num.length dn,.slice bd q.den.length dd] T)
 refine⟨Yd,.inr ⟨w.heap.size,0,rfl,Yd,fun j x hj=>?_⟩⟩
 match j,hj with
 | 0,hj=>
  exact TH
 | 1,hj=>
  simp at hj;subst hj;exact⟨bn,bd,dn,dd,by rw[World.cell?_alloc_at _ _ _ _ rfl];rfl,by rw[World.cell?_alloc_at _ _ _ _ rfl];rfl,by rw[World.cell?_alloc_at _ _ _ _ rfl];rfl,⟨bn,bd,dn,dd,rfl,g2,g3,g4.below hal,g5.below hal⟩⟩
theorem zjQ{w:World}{p:zaI}{an ad:Option Addr}{cn cd:Nat}(b2:p.num.length<=cn)(b3:p.den.length<=cd)(b4:zt w an p.num)(b5:zt w ad p.den)(T:Nat):
  zN (w.alloc (.cells #[.bool p.neg,.slice an p.num.length cn,.slice ad p.den.length cd] T)) (some ⟨w.heap.size,0,none⟩) [p]:=by
 have hal:=blA w (.cells #[.bool p.neg,.slice an p.num.length cn,.slice ad p.den.length cd] T)
 refine⟨Yd,.inr ⟨w.heap.size,0,rfl,Yd,fun j x hj=>?_⟩⟩
 match j,hj with
 | 0,hj=>
  exact TH
theorem zrK{w w1 w2:World}{p q:zaI}{an ad bn bd:Option Addr}{cn cd dn dd:Nat}(hp:p=zh 1)(hq:q=zh (-1))(kb1:Below (w.alloc (.cells #[.int .i64 2] 3)).heap.size (w.alloc (.cells #[.int .i64 2] 3)) w1)(kb2:Below w1.heap.size w1 w2)
 (b2:p.num.length<=cn)(b3:p.den.length<=cd)(b4:zt w1 an p.num)(b5:zt w1 ad p.den)(g2:q.num.length<=dn)(g3:q.den.length<=dd)(g4:zt w2 bn q.num)(g5:zt w2 bd q.den){A:World}
 (hA:A=((((w2.alloc (.cells #[.bool p.neg,.slice an p.num.length cn,.slice ad p.den.length cd,.bool q.neg,.slice bn q.num.length dn,.slice bd q.den.length dd] 51)).alloc (zeP 51)).alloc
   (.cells #[.int .i64 1,.int .i64 0,.int .i64 1,.int .i64 0,.int .i64 0,.int .i64 0,.int .i64 0,.slice (some ⟨w2.heap.size,0,none⟩) 2 2,.slice (some ⟨w2.heap.size+1,0,none⟩) 1 1,.int .i64 5,.int .i64 0,.int .i64 0,.int .i64 0,.int .i64 0,.int .i64 0,.int .i64 0,.slice none 0 0,.slice none 0 0] 44)).alloc
   (.cells #[.slice (some ⟨w.heap.size,0,none⟩) 1 1,.slice (some ⟨w2.heap.size+1+1,0,none⟩) 2 2] 25))):
  z9 A Any (some ⟨w.heap.size,0,none⟩) [2]/\zaO A (some ⟨w2.heap.size+1+1,0,none⟩) [exD,exR]/\A.cell? ⟨w2.heap.size+1+1+1,0,none⟩=some (.slice (some ⟨w.heap.size,0,none⟩) 1 1)/\A.cell? ⟨w2.heap.size+1+1+1,1,none⟩=some (.slice (some ⟨w2.heap.size+1+1,0,none⟩) 2 2)/\
   w2.heap.size+1+1+1<A.heap.size/\Below w.heap.size w A:=by
 have hst:=fun(W:World) (o:Obj)=>(Zg W.heap.size W).alloc (Za _) o
 have hW:=zjR b2 b3 (b4.below kb2) (b5.below kb2) g2 g3 g4 g5 51;have m1:=hst w2 (.cells #[.bool p.neg,.slice an p.num.length cn,.slice ad p.den.length cd,.bool q.neg,.slice bn q.num.length dn,.slice bd q.den.length dd] 51);have s1:(w2.alloc (.cells #[.bool p.neg,.slice an p.num.length cn,.slice ad p.den.length cd,.bool q.neg,.slice bn q.num.length dn,.slice bd q.den.length dd] 51)).heap.size=w2.heap.size+1:=Yd;generalize w2.alloc (.cells #[.bool p.neg,.slice an p.num.length cn,.slice ad p.den.length cd,.bool q.neg,.slice bn q.num.length dn,.slice bd q.den.length dd] 51)=A1 at *;have hZ:=zjQ (w:=A1) (p:=⟨false,[],[]⟩) (an:=none) (ad:=none) (cn:=0) (cd:=0) (Za _) (Za _) (zt.nil _ _) (zt.nil _ _) 51;have m2:=hst A1 (zeP 51);have s2:(A1.alloc (zeP 51)).heap.size=w2.heap.size+1+1:=by simp[s1]
 simp only[ZaK]at hZ;generalize A1.alloc (zeP 51)=A2 at *;have m3:=hst A2 (.cells #[.int .i64 1,.int .i64 0,.int .i64 1,.int .i64 0,.int .i64 0,.int .i64 0,.int .i64 0,.slice (some ⟨w2.heap.size,0,none⟩) 2 2,.slice (some ⟨w2.heap.size+1,0,none⟩) 1 1,.int .i64 5,.int .i64 0,.int .i64 0,.int .i64 0,.int .i64 0,.int .i64 0,.int .i64 0,.slice none 0 0,.slice none 0 0] 44);have hc:∀i v,(#[.int .i64 1,.int .i64 0,.int .i64 1,.int .i64 0,.int .i64 0,.int .i64 0,.int .i64 0,.slice (some ⟨w2.heap.size,0,none⟩) 2 2,.slice (some ⟨w2.heap.size+1,0,none⟩) 1 1,.int .i64 5,.int .i64 0,.int .i64 0,.int .i64 0,.int .i64 0,.int .i64 0,.int .i64 0,.slice none 0 0,.slice none 0 0]:Array Value)[i]? =some v->
   (A2.alloc (.cells #[.int .i64 1,.int .i64 0,.int .i64 1,.int .i64 0,.int .i64 0,.int .i64 0,.int .i64 0,.slice (some ⟨w2.heap.size,0,none⟩) 2 2,.slice (some ⟨w2.heap.size+1,0,none⟩) 1 1,.int .i64 5,.int .i64 0,.int .i64 0,.int .i64 0,.int .i64 0,.int .i64 0,.int .i64 0,.slice none 0 0,.slice none 0 0] 44)).cell? ⟨w2.heap.size+1+1,i,none⟩=some v:=by
  intro i v h;rw[World.cell?_alloc_at _ _ _ _ s2.symm];exact h
 have s3:(A2.alloc (.cells #[.int .i64 1,.int .i64 0,.int .i64 1,.int .i64 0,.int .i64 0,.int .i64 0,.int .i64 0,.slice (some ⟨w2.heap.size,0,none⟩) 2 2,.slice (some ⟨w2.heap.size+1,0,none⟩) 1 1,.int .i64 5,.int .i64 0,.int .i64 0,.int .i64 0,.int .i64 0,.int .i64 0,.int .i64 0,.slice none 0 0,.slice none 0 0] 44)).heap.size=w2.heap.size+1+1+1:=by simp[s2]
 generalize A2.alloc (.cells #[.int .i64 1,.int .i64 0,.int .i64 1,.int .i64 0,.int .i64 0,.int .i64 0,.int .i64 0,.slice (some ⟨w2.heap.size,0,none⟩) 2 2,.slice (some ⟨w2.heap.size+1,0,none⟩) 1 1,.int .i64 5,.int .i64 0,.int .i64 0,.int .i64 0,.int .i64 0,.int .i64 0,.int .i64 0,.slice none 0 0,.slice none 0 0] 44)=A3 at *;have m4:=hst A3 (.cells #[.slice (some ⟨w.heap.size,0,none⟩) 1 1,.slice (some ⟨w2.heap.size+1+1,0,none⟩) 2 2] 25);have hb2:=za1.alloc A3 (.slice (some ⟨w.heap.size,0,none⟩) 1 1) (.slice (some ⟨w2.heap.size+1+1,0,none⟩) 2 2) 25;rw[<- hA]at m4 hb2;rw[s3]at hb2;have hi:=zeK (x:=2) Xm (show(w.alloc (.cells #[.int .i64 2] 3)).cell? ⟨w.heap.size,0,none⟩=some (.int .i64 2) by rw[World.cell?_alloc_at _ _ _ _ rfl];rfl) Yd;have t1:=kb1.trans (kb2.mono kb1.size);have t2:=t1.trans (m1.mono t1.size);have t3:=t2.trans (m2.mono t2.size);have t4:=t3.trans (m3.mono t3.size);have t5:=t4.trans (m4.mono t4.size);have u0:=hst w (.cells #[.int .i64 2] 3)
 refine⟨hi.below t5,⟨Yd,.inr ⟨_,0,rfl,by have:=m4.size;omega,fun j x hj=>?_⟩⟩,hb2.c0,hb2.c1,hb2.lt,u0.trans (t5.mono u0.size)⟩
 have r34:∀i v,A3.cell? ⟨w2.heap.size+1+1,i,none⟩=some v->A.cell? ⟨w2.heap.size+1+1,i,none⟩=some v:=fun i v h=>(m4.cell (p:=⟨w2.heap.size+1+1,i,none⟩) (by show w2.heap.size+1+1<A3.heap.size;omega)).trans h
 match j,hj with
 | 0,hj=>
  simp at hj;subst hj
  refine⟨some ⟨w2.heap.size,0,none⟩,some ⟨w2.heap.size+1,0,none⟩,2,1,⟨r34 _ _ (hc 0 _ rfl),r34 _ _ (hc 1 _ rfl),r34 _ _ (hc 2 _ rfl),r34 _ _ (hc 3 _ rfl),r34 _ _ (hc 4 _ rfl),r34 _ _ (hc 5 _ rfl),r34 _ _ (hc 6 _ rfl),r34 _ _ (hc 7 _ rfl),r34 _ _ (hc 8 _ rfl)⟩,?_,?_⟩
  ·show zN _ _ [zh 1,zh (-1)]
   rw[<- hp,<- hq];exact((hW.below m2).below m3).below m4
  ·show zN _ _ [zh 0]
   rw[zd5];rw[s1]at hZ;exact(hZ.below m3).below m4
 | 1,hj=>
  simp at hj;subst hj;exact⟨none,none,0,0,⟨r34 _ _ (hc 9 _ rfl),r34 _ _ (hc 10 _ rfl),r34 _ _ (hc 11 _ rfl),r34 _ _ (hc 12 _ rfl),r34 _ _ (hc 13 _ rfl),r34 _ _ (hc 14 _ rfl),r34 _ _ (hc 15 _ rfl),r34 _ _ (hc 16 _ rfl),r34 _ _ (hc 17 _ rfl)⟩,⟨by simp[exR],.inl rfl⟩,⟨by simp[exR],.inl rfl⟩⟩
