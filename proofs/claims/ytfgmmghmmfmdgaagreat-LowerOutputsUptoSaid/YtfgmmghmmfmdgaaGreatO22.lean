/-
  Contracts: LinS, LinT, LinU, LinV, LinX, LinW, LinY, LinZ, LjA, LjB, LjC, LjD, PvA, PvE, LjE, PvF, ModP.
-/
import Derived.Test.YtfgmmghmmfmdgaaGreatO21
import Derived.Test.YtfgmmghmmfmdgaaGreatO0
set_option linter.all false
set_option maxRecDepth 100000
set_option maxHeartbeats 3200000
namespace Go.Proofs.YtfgmmghmmfmdgaaGreat
open Go.RowKit
open Go.Lib (hid)
variable {P:Prop} {w w' W wr w1 W1 W':World} {base g b off k n gL T C D B N gG o i j m n0 KH KW:Nat} {v u v' p1 p2 p3 p0:Value} {L U U':List zl} {ws bs:List Rat} {ix sh:List Int} {S:zdp} {win gs:List (List Int)} {F:Nat->Prop} {a:Option Addr} {l:List Nat} {q:Rat} {f:zl} {e:Ending}
theorem IR(h:P:=by
 obtain⟨k,m,b0,k0,hk,HM,rfl,rfl,HOut⟩:=hrel
 by_cases hlt:k<C
 ·go_wp2
  go_loopw [5,38] (fun v j wr=>∃(i m:Nat) (a:Option Addr) (c:Nat),i<=T/\Hid (m=k*T+i)/\v=.slice a m c/\j=.int .i64 (i:Int)/\Hid (zeV gG n0 Wy wr (.slice a m c) (z7 G (gs.take m) U).2 (z7 G (gs.take m) U).1)) (fun _ j _=>T-(intOf j).toNat)
  case atStart=>exact⟨0,m,b0,k0,Zs _,HM.out,rfl,rfl,HOut.out⟩
  case round=>
   clear HM HOut;obtain⟨i,m,b0,k0,hi0,HM,rfl,rfl,HOut⟩:=hrel
   by_cases hi:i<T
   ·obtain⟨p0,hp0⟩:∃p0,p0=k*n:=⟨_,rfl⟩
    obtain⟨p1,hp1⟩:∃p1,p1=(k+1)*n:=⟨_,rfl⟩
    have hmul:p1<=C*n:=JJ;have hp01:p1=p0+n:=Xf;have hcn:=HCn.out;have h10:p1-p0=n:=Ya;have hmCT:m+1<=C*T:=by
     have h1:(k+1)*T<=C*T:=Zl _ hlt;exact TO
    have hmT:m+1<=1000000:=by have h2:=HCT.out;omega
    have HIr:=HIy.out.stp HOut.out.st;obtain⟨bt,ot,l,ai,ci,haw',tc0,hl,hlc,hIl,hbt,_⟩:=HIr.pickc (k:=i) YZ;have hmem:=Zq hl;obtain⟨ln,hln⟩:∃ln,ln=l.length:=⟨_,rfl⟩
    have hln2:p1<=ln:=V7;have hln3:ln<=1000000:=VE;have hp0l:p0<ln:=Ya;have hp01l:p0<=p1:=Ya;rw[<- hln]at tc0 hlc;obtain⟨bi,oi,_,hai,_,_,_,_,_,_,_⟩:=hIl.pick2 (k:=0) Ya;rw[hai]at hIl;obtain⟨hsl2,hsub⟩:=hIl.sub (lo:=p0) (n:=n) Ya;obtain⟨ll,hll⟩:∃ll,ll=List.take n (List.drop p0 l):=⟨_,rfl⟩
    rw[<- hll]at hsl2 hsub;have hgm:gs[m]? =some ll:=Eu;have hmx:∀j∈ll,0<=j/\j<x.length:=fun j hj=>HIx.out l hmem j (zck (lo:=p0) (n:=n) (by rw[hll]at hj;exact hj))
    obtain⟨HMx,HSub,HSl⟩:=hd3 hmx hsub hsl2;have HXr:=hid (HXy.out.stp HGy.out.un HOut.out.st).at';obtain⟨HSr,HStep,HGm⟩:=hd3 (HSy.out.stp HGy.out.un HOut.out.st) (zh0 G hgm U) hgm;have HM1:Hid (m+1=k*T+(i+1)):=Jn;have m0:IntKind.i64.wrap ((k:Int)*(n:Int))=(p0:Int):=Ty;have HM2:Hid (IntKind.i64.wrap (((k:Int)+1)*(n:Int))=(p1:Int)):=Io;have HCTm:=hid hmCT;have hbt2:bt<wr.heap.size:=hbt;subst haw' hai;clear hl hmem hln hIl hsl2 hsub hmx hgm hp0 hp1 hll HIr hmCT;have m2:IntKind.i64.wrap (((k:Int)+1)*(n:Int))=(p1:Int):=HM2.out;obtain⟨wq,hwq⟩:∃wq:World,wq=wr:=⟨_,rfl⟩
    subst hwq;go_wp2;clear m2 m0 tc0;simp only[ZaO]
    go_loopw [11,52] (fun v q wi=>∃(j:Nat) (a:Option Addr) (c:Nat),j<=n/\v=.slice a j c/\q=.int .i64 (j:Int)/\Hid (zi3 wq wi (.slice a j c) (zba (ll.take j) x))) (fun _ q _=>n-(intOf q).toNat)
    case atStart=>exact⟨0,none,0,Zs _,rfl,rfl,Jo⟩
    case round=>
     exact Un
   ·exact Eh
 ·exact Tz
):P:=h
theorem IS(h:P:=by intro d y' X hJ hd hW;simp only[zaE,Region.binds,ZB,Zn,Zx,Z0,Z6]at hW;have h2:d 2=true:=Ye;have J2:=hJ.all 2 h2;simp only[GU,Zf,Zc]at J2;simp[ze,Act.put];generalize hg2:y' 2=y2;rw[hg2]at J2;clear hg2;obtain rfl:=J2;have HJ:=hid hJ;clear hJ hd hW h2;exact Ux):P:=h
theorem IT(h:P:=by simp only[zaE,Region.binds,ZB,Zn,Zx,Z0,Z6]at hW;have h3:d 3=true:=Ye;have J3:=hJ.all 3 h3;simp only[GU,Zf,Zc]at J3;simp[ze,Act.put];generalize hg3:y' 3=y3;rw[hg3]at J3;clear hg3;obtain rfl:=J3;have HJ:=hid hJ;clear hJ hd hW h3;exact Ux):P:=h
theorem IU(h:P:=by simp only[zaE,Region.binds,ZB,Zn,Zx,Z0,Z6]at hW;simp[ze,Act.put];have HJ:=hid hJ;clear hJ hd hW;exact Ux):P:=h
theorem IW(h:P:=by intro d y' X hJ hd hW;simp only[zaE,Region.binds,ZB,Zn,Zx,Z0,Z6]at hW;have h1:d 1=true:=Ye;have J1:=hJ.all 1 h1;simp only[GU,Zf,Zc]at J1;simp[ze,Act.put];generalize hg1:y' 1=y1;rw[hg1]at J1;clear hg1;obtain rfl:=J1;have HJ:=hid hJ;clear hJ hd hW h1;exact Ux):P:=h
theorem Oz(h:P:=by
 go_roundw
 case rel=>exact⟨i+1,m+1,b3,k3,hi,HM1.out,rfl,Yg,HOut3.out⟩
 case measure=>simp[intOf];omega
):P:=h
theorem Un(h:P:=by
 obtain⟨j,b2,k2,hj0,rfl,rfl,HJn⟩:=hrel
 by_cases hj:j<n
 ·have hbj:Below wq.heap.size wq wr:=HJn.out.bl;obtain⟨b6,o6,xi,ha6,xc,hxi,_,hb6,_,_,_⟩:=(HSub.out.below hbj).pick2 (k:=j) (by rw[HSl.out];exact hj);cases ha6;obtain⟨hx0,hx1⟩:=HMx.out xi (Zq hxi);obtain⟨iN,rfl⟩:=Int.eq_ofNat_of_zero_le hx0;have hiN:iN<x.length:=Ya;obtain⟨bx,ox,y,q0,q1,q2,q3,hax,hbx,hyy,yc0,yc1,yc2,yc3,hyv⟩:=HXr.out.pick (k:=iN) hiN;obtain⟨ya,yn,yc,yb,yan,ynn,ycn,yad,ynd,ycd,rfl,rfl,rfl,rfl⟩:=hyv.spell;have hxk:x.getD iN zcB=y:=by rw[Zd,hyy];rfl
  have HVal:=hid (zlM (x:=x) hxi);rw[show((iN:Int)).toNat=iN from ZaH iN,hxk]at HVal;have yc0:=(hbj.cell (p:=⟨bx,ox+iN*4,none⟩) hbx).trans yc0;have yc1:=(hbj.cell (p:=⟨bx,ox+iN*4+1,none⟩) hbx).trans yc1;have yc2:=(hbj.cell (p:=⟨bx,ox+iN*4+2,none⟩) hbx).trans yc2;have yc3:=(hbj.cell (p:=⟨bx,ox+iN*4+3,none⟩) hbx).trans yc3;have hbx2:=Zb hbx hbj.size;have f10:=(HSr.out.below hbj).f10;have slt:=(HSr.out.below hbj).lt;rw[hax]at f10;have hiS:iN<S.nx:=by rw[<- H3.out];exact hiN
  have hal:=blA wr (.cells #[.slice ya yn yc,.bool yb,.slice yan ynn ycn,.slice yad ynd ycd] 53);obtain⟨HRow,HOw⟩:=hd2 (zfp.form (zaX.below hyv hbj) 53) (HJn.out.below hal);have HLj:Hid ((zba (ll.take j) x).length=j):=by
   have:=HSl.out;unfold Hid;rw[zaP,Z8];omega
  clear hyy hyv hxk hal hbj hxi hx0 hx1
  go_wp2_with (at_builtin;refine apF rfl (.tmp 56) (.tmp 64) rfl wq.heap.size (.slice b2 j k2) j _ HLj.out rfl HOw.out.own _ y HRow.out rfl Ya HOw.out.bl.size ?_;intro b3 k3 w3 hown hk3 hg hbe hnx;have HOut3:=hid (show zi3 wq w3 (.slice b3 (j+1) k3) (zba (ll.take (j+1)) x)from⟨by rw[HVal.out];exact hown,HOw.out.bl.trans hbe⟩);clear hown hg hbe hnx)
  go_roundw
  case rel=>
   exact⟨j+1,b3,k3,hj,rfl,Yg,HOut3.out⟩
  case measure=>simp[intOf];omega
 ·obtain rfl:j=n:=Ya;have HJ:=HJn.out;rw[show ll.take j=ll from ZM VF]at HJ;have hvl:(zba ll x).length=j:=by rw[zaP];exact HSl.out
  have hjk:j<=k2:=by
   obtain⟨a',c',e,hc⟩:=HJ.own.form;cases e;rw[hvl]at hc;exact hc
  have hF1:=zgG.of HJ.own HOut.out.un HJ.bl;have HFR:=(hF1.read (by rw[hvl];omega))
  have HG1:=hid (HOut.out.below HJ.bl);have HC:=hid (HFn.out wr m b2 k2 ll HGm.out (by have:=HCTm.out;omega) HSl.out HG1.out.un (HSr.out.below HJ.bl) HFR hjk);obtain⟨U',f',hUf⟩:∃U' f',G (z7 G (gs.take m) U).1 ll=(U',f'):=⟨_,_,rfl⟩
  rw[hUf]at HC HStep;have HLm:Hid ((z7 G (gs.take m) U).2.length=m):=by
   have h1:=(Zr.1 HGm.out).1;unfold Hid;rw[zbI,Z8];omega
  clear HJ hF1 HFR hUf hvl HJn
  go_wp2_with fail
  refine HC.out.mono ?_
  rintro e w5 ⟨v5,rfl,hv5,hl5,hs5⟩;obtain⟨ya,yn,yc,yb,yan,ynn,ycn,yad,ynd,ycd,rfl⟩:=hv5.spell;have hal:=blA w5 (.cells #[.slice ya yn yc,.bool yb,.slice yan ynn ycn,.slice yad ynd ycd] 53);obtain⟨HRow,HG5⟩:=hd2 (zfp.form hv5.fp 53) ((HG1.out.stp hs5 hl5).below hal);have HGe:=hid HG5.out.st.size;clear hv5 hl5 hs5 hal HC HG1
  go_wp2_with (at_builtin;refine apF rfl (.tmp 67) (.tmp 71) rfl Wy.heap.size (.slice b0 m k0) m _ HLm.out rfl HG5.out.own.own _ f' HRow.out rfl Ya HGe.out ?_;intro b3 k3 w3 hown hk3 hg hbe hnx;have HOut3:=hid (show zeV gG n0 Wy w3 (.slice b3 (m+1) k3) (z7 G (gs.take (m+1)) U).2 (z7 G (gs.take (m+1)) U).1 from Jp);clear hown hg hbe hnx)
  exact Oz
):P:=h
theorem Ux(h:P:=by
 go_wp2
 first|refine⟨_,rfl,?_⟩|refine⟨rfl,_,?_⟩|skip
 exact HJ.out.here Yd rfl
):P:=h
theorem UO(h:P:=by have HC:=hid h;have f0:=hL.f0;have glt:=hL.lt;rw[hk]at f0;clear hL hk h;go_enter Tryz.func35,Tryz.ntmps35;go_wp2_with fail;refine HC.out.mono ?_;intro e w1 hR;obtain⟨a,n,c,rfl⟩:=hr e w1 hR;have HR:=hid hR;clear hR HC;go_wp2;exact HR.out):P:=h
theorem Ta(h:P:=by
 go_wp2_with fail
 refine HCt.out.mono ?_
 rintro e w1 ⟨v1,rfl,kv,kb⟩;obtain⟨KV,KB⟩:=hd2 kv kb;clear kv kb HCt;go_wp2
 first|exact⟨_,rfl,HJ.out.step Yd KB.out KV.out⟩|exact HJ.out.step Yd KB.out KV.out
):P:=h
theorem Tz(h:P:=by obtain rfl:k=C:=Ya;have e:gs.take m=gs:=ZM XX;have HO:=HOut.out;rw[e]at HO;have HO:=hid HO;have hfl:(z7 G gs U).2.length=m:=KX;go_wp2;exact Zp (v:=.slice b0 m k0) Vc rfl ((HO.out.rebase (Stp.of HBy.out HG.out.lt) HBy.out.size).ret hfl)):P:=h
theorem T6(h:P:=by
 go_wp2_with fail
 refine HCt.out.mono ?_
 rintro e w1 ⟨v1,rfl,kv,kl,kb⟩;obtain⟨KV,KL,KB⟩:=hd3 kv kl kb;clear kv kl kb HCt;go_wp2
 first|exact⟨_,rfl,HJ.out.unit KL.out KB.out KV.out⟩|exact HJ.out.unit KL.out KB.out KV.out
):P:=h
theorem Eh(h:P:=by
 obtain rfl:i=T:=Ya;have HM1:Hid (m=(k+1)*i):=Xn;go_wp2;go_roundw
 case rel=>exact⟨k+1,m,b0,k0,hlt,HM1.out,rfl,Yg,HOut.out⟩
 case measure=>simp[intOf];omega
):P:=h
theorem Eu(h:P:=by have h:=zo7 (C:=C) (n:=n) (k:=k) (i:=i) (win:=win) hlt YZ;rw[<- HT.out,<- HM.out,<- HGs.out,Zd,hl,<- hp0]at h;rw[h,hll];rfl):P:=h
theorem Ew(h:P:=by
 rcases hx.2 with k|⟨g,cap,cur,e1,k1,k2,k3⟩
 ·exact .inl k
 ·exact .inr ⟨g,cap,cur,e1,k1,(Zbv _ _ _ _ (hub g (by rw[e1];rfl))).trans k2,k3⟩
):P:=h
theorem EB(h:P:=by
 go_wp2
 first|exact⟨_,rfl,HJ.out.step Yd HBa.out ⟨HRow.out,fun b e=>XA⟩⟩|exact HJ.out.step Yd HBa.out ⟨HRow.out,fun b e=>XA⟩
):P:=h
theorem ED(h:P:=by
 rcases ho.2 with k|⟨g,cap,cur,rfl,k1,k2,k3⟩
 ·exact .inl k
 ·exact .inr ⟨g,cap,cur,rfl,k1,((h.fr g rfl).block hs).trans k2,k3⟩
):P:=h
theorem Ik(h:P:=by
 go_roundw
 case rel=>exact⟨k+1,b3,k3,hlk,rfl,Yg,HOut3.out⟩
 case measure=>simp[intOf];omega
):P:=h
theorem Io(h:P:=by have e:((k:Int)+1)*(n:Int)=(p1:Int):=JF;unfold Hid;rw[e];exact IntWalk.i64_in _ Ya):P:=h
theorem I7(h:P:=by
 ·intro g e q x hx;rw[zO (by exact hub g e)]at hx;exact ho.al g e q x hx
):P:=h
theorem Xo(h:P:=by simp[results,Tryz.results58,go_sem,r0,r1,r2,r3,rlt,Zbc rlt]):P:=h
theorem XY(h:P:=by simp[results,Tryz.results35,go_sem]):P:=h
theorem Vc(h:P:=by simp[results,Tryz.results57,go_sem]):P:=h
theorem zdT.mono{α:Type}{P:World->Value->Value->Value->Value->α->Prop}{p:Value->Bool}{T:TypeId}{b2:Nat}{L:List α}(h:zdT P p T w base v L)(hb:b2<=base):zdT P p T w b2 v L:=by
 obtain⟨⟨xs,ho,he⟩,ha⟩:=h
 refine⟨⟨xs,⟨ho.1,ho.2.imp id ?_⟩,he⟩,ha⟩
 rintro⟨g,cap,cur,e,hg,r⟩;exact⟨g,cap,cur,e,Zi hb hg,r⟩
theorem zem.grownF{x:zaf}(h:zem w g x)(hg:w.grownBy w' v.ownBlock)(hn:NoO w v)(hne:v.ownBlock≠some g):zem w' g x:=by
 obtain⟨⟨an,ad,cn,cd,⟨c0,c1,c2,cf,clt⟩,h2,h3,h4,h5⟩,h6⟩:=h;have hb:∀o,w'.cell? ⟨g,o,none⟩=w.cell? ⟨g,o,none⟩:=fun o=>ZS (hg.block g clt (fun e=>hne e.symm))
 have hf:∀o,w'.frozen? ⟨g,o,none⟩=w.frozen? ⟨g,o,none⟩:=fun o=>ZaT (hg.block g clt (fun e=>hne e.symm))
 exact⟨⟨an,ad,cn,cd,⟨(hb 0).trans c0,(hb 1).trans c1,(hb 2).trans c2,fun o=>(hf o).trans (cf o),Zb clt hg.size⟩,h2,h3,h4.grown hg hn,h5.grown hg hn⟩,fun o u e=>h6 o u ((hb o).symm.trans e)⟩
structure zg2 (W wr:World) (v:Value) (L:List zl) (g:Nat) (u:zaf):Prop where
 out:zi3 W wr v L
 box:zem wr g u
 ne:v.ownBlock≠some g
theorem zg2.below{u:zaf}(h:zg2 W wr v L g u)(hb:Below wr.heap.size wr w'):zg2 W w' v L g u:=⟨h.out.below hb,h.box.below hb,h.ne⟩
theorem zg2.start(h:zi3 W wr v L){an ad:Option Addr}{cn cd:Nat}{u:zaf}(h2:u.num.length<=cn)(h3:u.den.length<=cd)(h4:zw wr an u.num)(h5:zw wr ad u.den)(T:Nat):
  zg2 W (wr.alloc (.cells #[.bool u.neg,.slice an u.num.length cn,.slice ad u.den.length cd] T)) v L wr.heap.size u:=
 ⟨h.below ((Ze _ _).alloc (Za _) _),zem.alloc h2 h3 h4 h5 T,fun e=>by have:=(h.own.lt e).2;omega⟩
theorem zg2.app{L':List zl}{u:zaf}(h:zg2 W wr v L g u)(ho:zoQ w' W.heap.size v' L')(hg:wr.grownBy w' v.ownBlock)(hb:Below W.heap.size wr w')(hn:zi7 wr v v'):zg2 W w' v' L' g u:=by
 refine⟨⟨ho,h.out.bl.trans hb⟩,h.box.grownF hg h.out.own.al.bs h.ne,?_⟩
 rcases hn with e|⟨k,e,hk⟩
 ·rw[e];exact h.ne
 ·rw[e];intro e2;cases e2;have:=h.box.lt;omega
def zeq(f:Nat->Nat->zl)(T k i:Nat):List zl:=((List.range k).flatMap fun o=>(List.range T).map (f o))++(List.range i).map (f k)
theorem zg8(f:Nat->Nat->zl)(T k i:Nat):(zeq f T k i).length=k*T+i:=by
 have:∀k,((List.range k).flatMap fun o=>(List.range T).map (f o)).length=k*T:=EI;rw[zeq,ZE,this];simp
theorem zms(f:Nat->Nat->zl)(T k i:Nat):zeq f T k (i+1)=zeq f T k i++[f k i]:=by simp[zeq,Zab]
theorem zmn(f:Nat->Nat->zl)(T k:Nat):zeq f T k T=zeq f T (k+1) 0:=by simp[zeq,Zab]
def zdi(bs ws:List Rat)(n:Nat)(win:List (List Int))(x:List zl)(o i:Nat):zl:=zdq (bs.getD o 0) ws (o*n) (win.getD i []) x (win.getD i []).length
theorem zqU{b:Rat}{x:List zl}(h:ix.getD k 0=(n:Int)):zdq b ws off ix x (k+1)=zbi 1 (zdq b ws off ix x k) (scA (ws.getD (off+k) 0) (x.getD n zcB)):=by
 show(if 0<=ix.getD k 0 then _ else _)=_
 rw[h,Zm Ya];rfl
theorem zmN{b:Rat}{x:List zl}(h:¬ 0<=ix.getD k 0):zdq b ws off ix x (k+1)=zdq b ws off ix x k:=by
 show(if 0<=ix.getD k 0 then _ else _)=_
 rw[Zg h]
theorem ztq{x:List zl}{W:Nat}(hL:zaY w gL S)(h1:ws.length=S.n1)(h2:bs.length=S.n2)(h3:x.length=S.nx)(h4:sh.length=S.nS)
 (hW:zm w S.a1 (ws.map zc))(hB:zm w S.a2 (bs.map zc))(hX:zaz w S.ax x)(hS:zah w F S.aS sh)
 (hwin:(zB sh S.kh S.kw S.st S.pd).1=win)(hT:T=win.length)(hlen:∀ix∈win,ix.length=n)(hix:∀ix∈win,∀i∈ix,i<x.length)
 (hwl:S.n2*n<=S.n1)(hN1:S.n1<=1000000)(hN2:S.n2<=1000000)(hNx:S.nx<=1000000)(hn2:n<=1000000)(hT2:T<=1000000)(hOT:S.n2*T<=1000000)
 (bw:BdL W C ws)(bb:BdL W C bs)(hW0:0<W)(bx:zcp D B N x)(hD0:0<D)(hP:Pay (W*D) (C+B+(n+1)*(C*B)))(hN:N<=500000):
  Calls Tryz.prog 56 #[.pointer (some ⟨gL,0,none⟩)] w (zl9 w (zeq (zdi bs ws n win x) T S.n2 0)):=by
 obtain⟨HW,HBi,HX,H1,H2,H3⟩:=hd6 hW hB hX h1 h2 h3;obtain⟨Hwl,HT,HLen,HIx,HOT,HSB⟩:=hd6 hwl hT hlen hix hOT hL;obtain⟨HBw,HBb,HBx,HPy⟩:=hd4 bw bb bx hP;have HWn:=zii hL h4 hS;rw[hwin]at HWn;have HWn:=hid HWn;clear hW hB hX hwl h1 h2 h3 h4 hS hwin hT hlen hix hOT hL bw bb bx hP
 go_enter Tryz.func56,Tryz.ntmps56
 go_wp2_with fail
 refine HWn.out.mono ?_
 rintro e Wx ⟨aw,cw,rfl,hI,hb⟩;rw[<- HT.out];obtain⟨HI,HSx,HBx0⟩:=hd3 hI (HSB.out.below hb) hb;clear hI hb HWn HSB;obtain⟨f0,f1,f2,f3,f4,f5,f6,f7,f8,f9,f10,f11,f12,ff,glt⟩:=HSx.out;go_wp2;clear f0 f1 f2 f3 f4 f5 f6 f7 f8 f9 f10 f11 f12 ff glt
 go_loopw [3,20] (fun v i wr=>∃(r m:Nat) (a:Option Addr) (c:Nat),r<=S.n2/\Hid (m=r*T)/\v=.slice a m c/\i=.int .i64 (r:Int)/\Hid (zi3 Wx wr (.slice a m c) (zeq (zdi bs ws n win x) T r 0))) (fun _ i _=>S.n2-(intOf i).toNat)
 case atStart=>exact⟨0,0,none,0,Zs _,XU,rfl,rfl,zi3.start Wx⟩
 case round=>
  obtain⟨r,m,b0,k0,hr,HM,rfl,rfl,HOut⟩:=hrel;obtain⟨wq,hwq⟩:∃wq:World,wq=wr:=⟨_,rfl⟩
  subst hwq
  by_cases hlt:r<S.n2
  ·have hbr:Below w.heap.size w wq:=HBx0.out.trans (HOut.out.bl.mono HBx0.out.size);obtain⟨bb,ob,u,un,ud,ucn,ucd,hab,hbb,hu,uc0,uc1,uc2,huv⟩:=HBi.out.pick (k:=r) JW;obtain⟨hu1,hu2⟩:=za5 hu;have uc0:=(hbr.cell (p:=⟨bb,ob+r*3,none⟩) hbb).trans uc0;have uc1:=(hbr.cell (p:=⟨bb,ob+r*3+1,none⟩) hbb).trans uc1;have uc2:=(hbr.cell (p:=⟨bb,ob+r*3+2,none⟩) hbb).trans uc2;obtain⟨q2,q3,q4,q5⟩:=huv.parts;obtain⟨Hu2,HOc0⟩:=hd2 hu2 (zg2.start HOut.out q2 q3 (q4.below hbr) (q5.below hbr) 51);rw[hab];clear hu hu1 hu2 huv q4 q5 hbr hab
   go_upto_region 6 with fail
   generalize wq.alloc (zbb u un ucn ud ucd 51)=Wg at *;clear uc0 uc1 uc2;go_wp2
   go_loopw [3,27] (fun v j wr=>∃(i m:Nat) (a:Option Addr) (c:Nat),i<=T/\Hid (m=r*T+i)/\v=.slice a m c/\j=.int .i64 (i:Int)/\Hid (zg2 Wx wr (.slice a m c) (zeq (zdi bs ws n win x) T r i) wq.heap.size u)) (fun _ j _=>T-(intOf j).toNat)
   case atStart=>exact⟨0,m,b0,k0,Zs _,HM.out,rfl,rfl,HOc0.out⟩
   case round=>
    clear HM HOut HOc0;obtain⟨i,m,b0,k0,hi0,HM,rfl,rfl,HOc⟩:=hrel;obtain⟨wv,hwv⟩:∃wv:World,wv=wr:=⟨_,rfl⟩
    subst hwv
    by_cases hi:i<T
    ·have hmT:m+1<=1000000:=by
      have h1:(r+1)*T<=S.n2*T:=Zl _ hlt;have h2:=HOT.out;exact TO
     obtain⟨bt,ot,l,ai,ci,haw',tc0,hl,hlc,hIl,hbt,_⟩:=HI.out.pickc (k:=i) YZ;have hmem:=Zq hl;have hln:l.length=n:=HLen.out l hmem;rw[hln]at tc0 hlc;have tc0:=(HOc.out.out.bl.cell (p:=⟨bt,ot+i,none⟩) hbt).trans tc0;obtain⟨HIl,HMem,HLn⟩:=hd3 (hIl.below HOc.out.out.bl) hmem hln;have hbt2:=Zb hbt HOc.out.out.bl.size;have HGl:Hid (win.getD i []=l):=by unfold Hid;rw[Zd,hl];rfl
     obtain⟨un,ud,ucn,ucd,⟨c0,c1,c2,cff,clt⟩,u2,u3,u4,u5⟩:=HOc.out.box.ex;have HNum:=hid (zns (q:=bs.getD r 0) (show RatV wv (.agg #[.bool u.neg,.slice un u.num.length ucn,.slice ud u.den.length ucd]) (zc (bs.getD r 0))from by have h:RatV wv (.agg #[.bool u.neg,.slice un u.num.length ucn,.slice ud u.den.length ucd]) u:=⟨un,ud,ucn,ucd,rfl,u2,u3,u4,u5⟩;rw[Hu2.out]at h;rw[<- Hu2.out]at h⊢;exact h));rw[haw'];clear hl hIl hmem hln u4 u5
     go_upto_region 9 with fail
     go_wp2_with fail
     refine HNum.out.mono ?_
     rintro e w5 ⟨v5,rfl,hv,hb⟩;obtain⟨na,nn,nc,nb,nan,nnn,ncn,nad,nnd,ncd,rfl⟩:=hv.spell;obtain⟨HOc5,HIl5⟩:=hd2 (HOc.out.below hb) (HIl.out.below hb);have hbt5:=Zb hbt2 hb.size;have HNF:=hid hv.fp;have HAc:=hid (AcF.make (Ze w5.heap.size w5) (Ze w5.heap.size w5) HNF.out 53);clear HNum hv hb c0 c1 c2 cff clt tc0 HOc HIl hbt2
     go_upto_region 10 with fail
     generalize w5.alloc (.cells #[.slice na nn nc,.bool nb,.slice nan nnn ncn,.slice nad nnd ncd] 53)=Wh at *;go_wp2
     go_loopw [35] (fun i wi=>∃k:Nat,k<=n/\i=.int .i64 (k:Int)/\Hid (AcF w5 wi w5.heap.size (zdq (bs.getD r 0) ws (r*n) l x k))) (fun i _=>n-(intOf i).toNat)
     case atStart=>exact⟨0,Zs _,rfl,HAc.out⟩
     case round=>
      obtain⟨k,hk,rfl,HIr⟩:=hrel;have HBw':=hid (HBx0.out.trans ((HOc5.out.out.bl.trans (HIr.out.bl.mono HOc5.out.out.bl.size)).mono HBx0.out.size))
      by_cases hlk:k<n
      ·obtain⟨bi,oi,d,hai,ic,hd,_,hbi,_,hd1,hd2_⟩:=HIl5.out.pick2 (k:=k) (by rw[HLn.out];exact hlk);have hgd:l.getD k 0=d:=zeD hd;have ic:=(HIr.out.bl.cell (p:=⟨bi,oi+k,none⟩) hbi).trans ic;have hbi2:=Zb hbi HIr.out.bl.size
       by_cases h0:0<=d
       ·obtain⟨nn,rfl⟩:∃nn:Nat,d=(nn:Int):=⟨d.toNat,Ya⟩
        have hnx:nn<x.length:=by
         have:=HIx.out l HMem.out _ (Zq hd);omega
        obtain⟨p0,hp0⟩:∃p0,p0=r*n:=⟨_,rfl⟩
        have hmul:p0+k<S.n1:=by
         have e1:(r+1)*n<=S.n2*n:=Zl _ hlt;have e2:=Hwl.out;rw[Zac,<- hp0]at e1;omega
        obtain⟨bw,ow,v,vn,vd,vcn,vcd,haw,hbw,hv,wc0,wc1,wc2,hwv⟩:=HW.out.pick (k:=p0+k) JL;obtain⟨bx,ox,y,q0,q1,q2,q3,hax,hbx,hyy,yc0,yc1,yc2,yc3,hyv⟩:=HX.out.pick (k:=nn) hnx;obtain⟨ya,yn,yc,yb,yan,ynn,ycn,yad,ynd,ycd,rfl,rfl,rfl,rfl⟩:=hyv.spell;have hnx2:nn<S.nx:=by rw[<- H3.out];exact hnx
        obtain⟨hv1,hv2⟩:=za5 hv;have hxk:x.getD nn zcB=y:=by rw[Zd,hyy];rfl
        obtain⟨s,hs⟩:∃s,s=zdq (bs.getD r 0) ws (r*n) l x k:=⟨_,rfl⟩
        obtain⟨s1,hs1⟩:∃s1,s1=zdq (bs.getD r 0) ws (r*n) l x (k+1):=⟨_,rfl⟩
        obtain⟨pr,hpr⟩:∃pr,pr=scA (ws.getD (p0+k) 0) y:=⟨_,rfl⟩
        have hq:zbi 1 s pr=s1:=by
         rw[hs,hpr,hs1,zqU hgd,hxk,<- hp0]
        have HI1:=HIr.out;rw[<- hs]at HI1;obtain⟨HS1,HI1,HHs,HHpr,HHv,HHq⟩:=hd6 hs1 HI1 hs hpr (And.intro hv1 hv2) hq;have Hyb:=hid (show BdF D B N y from by rw[<- hxk];exact HBx.out.at hD0 nn);have m0:IntKind.i64.wrap ((r:Int)*(n:Int))=(p0:Int):=Ty;obtain⟨hyv',hwv'⟩:=hd2 hyv.val hwv;have q0:decide ((0:Int)<=(nn:Int))=true:=Zk Ya;obtain⟨sa,sn,sc,sb,san,snn,scn,sad,snd,scd,hbxs⟩:=HI1.out.spell;have HSf:=hid hbxs.fm.val;have HMul:Hid (∀W',Below wr.heap.size wr W'->Calls Tryz.prog 89 #[.agg #[.slice ya yn yc,.bool yb,.slice yan ynn ycn,.slice yad ynd ycd],.agg #[.bool v.neg,.slice vn v.num.length vcn,.slice vd v.den.length vcd]] W' (za2 W' pr)):=fun W' hb=>by
         have hbw2:=HBw'.out.trans (hb.mono HBw'.out.size);exact El
        have HAdd:Hid (∀W',Below wr.heap.size wr W'->∀z,zap W' z pr->Calls Tryz.prog 60 #[.agg #[.slice sa sn sc,.bool sb,.slice san snn scn,.slice sad snd scd],z] W' (za2 W' s1)):=fun W' hb z hz=>by
         rw[<- HHq.out]
         refine zr9 (HSf.out.below hb) hz (B:=C+k*(C*B)) (C:=C*B) (D:=W*D) (N:=N) ?_ ?_ (HPy.out.le (Za _) ?_) hN
         ·rw[HHs.out];exact BdF.sum (HBb.out.at hW0 _) HBw.out HBx.out hD0 _ _ _
         ·rw[HHpr.out];exact BdF.sc (HBw.out.at hW0 _) Hyb.out
         ·have:(k+1)*(C*B)<=n*(C*B):=Zl _ hlk;rw[Zac]at this⊢;omega
        have HCe:Hid (∀W',Below wr.heap.size wr W'->W'.cell? ⟨w5.heap.size,0,none⟩=some (.slice sa sn sc)/\W'.cell? ⟨w5.heap.size,1,none⟩=some (.bool sb)/\W'.cell? ⟨w5.heap.size,2,none⟩=some (.slice san snn scn)/\W'.cell? ⟨w5.heap.size,3,none⟩=some (.slice sad snd scd)/\
          W'.cell? ⟨gL,7,none⟩=some (.slice (some ⟨bw,ow,none⟩) S.n1 S.c1)/\W'.cell? ⟨gL,10,none⟩=some (.slice (some ⟨bx,ox,none⟩) S.nx S.cx)/\
          W'.cell? ⟨bw,ow+(p0+k)*3,none⟩=some (.bool v.neg)/\W'.cell? ⟨bw,ow+(p0+k)*3+1,none⟩=some (.slice vn v.num.length vcn)/\W'.cell? ⟨bw,ow+(p0+k)*3+2,none⟩=some (.slice vd v.den.length vcd)/\
          W'.cell? ⟨bx,ox+nn*4,none⟩=some (.slice ya yn yc)/\W'.cell? ⟨bx,ox+nn*4+1,none⟩=some (.bool yb)/\W'.cell? ⟨bx,ox+nn*4+2,none⟩=some (.slice yan ynn ycn)/\W'.cell? ⟨bx,ox+nn*4+3,none⟩=some (.slice yad ynd ycd)):=fun W' hb=>by
         have hbw2:=HBw'.out.trans (hb.mono HBw'.out.size);have hS2:=(HSx.out.below (HOc5.out.out.bl.trans (HIr.out.bl.mono HOc5.out.out.bl.size))).below hb;have g7:=hS2.f7;have g10:=hS2.f10;rw[haw]at g7;rw[hax]at g10;exact⟨(hb.cell hbxs.bx.lt).trans hbxs.bx.c0,(hb.cell hbxs.bx.lt).trans hbxs.bx.c1,(hb.cell hbxs.bx.lt).trans hbxs.bx.c2,(hb.cell hbxs.bx.lt).trans hbxs.bx.c3,g7,g10,(hbw2.cell hbw).trans wc0,(hbw2.cell hbw).trans wc1,(hbw2.cell hbw).trans wc2,
          (hbw2.cell hbx).trans yc0,(hbw2.cell hbx).trans yc1,(hbw2.cell hbx).trans yc2,(hbw2.cell hbx).trans yc3⟩
        have hs0:=hbxs.bx.lt;rw[hai];clear hv1 hv2 hs hs1 hpr hq hv hyy hyv hwv hp0 hd hgd hai hax haw wc0 wc1 wc2 yc0 yc1 yc2 yc3 hbxs hxk
        go_upto_region 14 with fail
        clear ic
        refine zj 23 Yb Yb Yb Yb Yd (zbZ wr.heap.size wr) (fun w w'=>Below w.heap.size w w') (GQ [.val (.agg #[.slice sa sn sc,.bool sb,.slice san snn scn,.slice sad snd scd]),.val (.pointer (some ⟨gL,0,none⟩)),.val (.pointer (some ⟨gL,0,none⟩)),.val (.pointer (some ⟨gL,10,none⟩)),.val (.slice (some ⟨bx,ox,none⟩) S.nx S.cx),.val (.int .i64 (nn:Int)),.val (.pointer (some ⟨bx,ox+nn*4,none⟩)),.val (.agg #[.slice ya yn yc,.bool yb,.slice yan ynn ycn,.slice yad ynd ycd]),.val (.pointer (some ⟨gL,0,none⟩)),.val (.pointer (some ⟨gL,0,none⟩)),.val (.pointer (some ⟨gL,0,none⟩)),.val (.pointer (some ⟨gL,7,none⟩)),.val (.slice (some ⟨bw,ow,none⟩) S.n1 S.c1),.val (.int .i64 (r:Int)),.val (.slice (some ⟨bi,oi,none⟩) n ci),.val (.int .i64 (n:Int)),.val (.int .i64 (p0:Int)),.val (.int .i64 (k:Int)),.val (.int .i64 ((p0:Int)+(k:Int))),.val (.pointer (some ⟨bw,ow+(p0+k)*3,none⟩)),.val (.agg #[.bool v.neg,.slice vn v.num.length vcn,.slice vd v.den.length vcd]),.frm pr,.frm s1]) (fun i v w w' h hb=>zaV h hb) (zbZ.start (Za _)) ?_ ?_
        ·intro ops;simp only[Zo,Zw,zbR]
         refine⟨?v0,?v1,?v2,?v3,?v4,?v5,?v6,?v7,?v8,?v9,?v10,?v11,?v12,?v13,?v14,?v15,?v16,?v17,?v18,?v19,?v20,?_,?_,trivial⟩
         all_goals (intro y' X hR hL;have hB:=hR.base;obtain⟨x0,x1,x2,x3,f7,f10,wc0,wc1,wc2,yc0,yc1,yc2,yc3⟩:=HCe.out X hR.be;simp only[zdt,Region.binds,ZB,Zn,Zx,GQ,Zf,Zc]at hL;simp[ze,Act.put])
         case v0|v1|v2|v3|v4|v5|v6|v7|v8|v9|v10|v11|v12|v13|v14|v15|v16|v17|v18|v19|v20=>
          exact Ut
         ·exact Oh
         ·generalize y' 0=y0 at hL⊢;generalize y' 21=y21 at hL⊢;obtain⟨rfl,H21,_,_⟩:=hL;obtain⟨K21,HR⟩:=hd2 H21 hR;clear hR H21;have HCt:=hid (HAdd.out X HR.out.be _ K21.out);exact Um
        ·intro ops y' X hR hL;have hB:=hR.base;have J22:=hL.2;simp only[GQ,Zf,Zc]at J22;obtain⟨x0,x1,x2,x3,f7,f10,wc0,wc1,wc2,yc0,yc1,yc2,yc3⟩:=HCe.out X hR.be;clear hL;simp only[Zo,Zw,ZG,ZO];simp[ze,Act.put];generalize y' 22=y22 at J22⊢;have HR:=hid hR;clear hR;obtain⟨ra,rn,rc,rb,ran,rnn,rcn,rad,rnd,rcd,rfl⟩:=J22.spell;have HBe:=hid (show Below wr.heap.size wr X from HR.out.be);have HStep:=hid (HI1.out.step HBe.out J22.fp);obtain⟨_,_,_,_,hbz⟩:=(HI1.out.below HBe.out).ex;obtain⟨z0,z1,z2,z3,zf,zlt⟩:=hbz.bx;clear J22 hbz;exact E5
       ·have hsk:zdq (bs.getD r 0) ws (r*n) l x (k+1)=zdq (bs.getD r 0) ws (r*n) l x k:=zmN (by rw[hgd];exact h0);have HStep:Hid (AcF w5 wr w5.heap.size (zdq (bs.getD r 0) ws (r*n) l x (k+1))):=by unfold Hid;rw[hsk];exact HIr.out
        have q0:decide (0<=d)=false:=Zj h0;rw[hai];clear hd hgd hsk hai;go_wp2;go_roundw
        case rel=>exact⟨k+1,hlk,Yg,HStep.out⟩
        case measure=>simp[intOf];omega
      ·obtain rfl:k=n:=Ya;obtain⟨s,hs⟩:∃s,s=zdi bs ws k win x r i:=⟨_,rfl⟩
       have hbx:AcF w5 wr w5.heap.size s:=by
        have h:=HIr.out;rw[hs,show zdi bs ws k win x r i=zdq (bs.getD r 0) ws (r*k) l x k by unfold zdi;rw[HGl.out,HLn.out]];exact h
       have HStep:Hid _:=zms (zdi bs ws k win x) T r i;rw[<- hs]at HStep;obtain⟨sa,sn,sc,sb,san,snn,scn,sad,snd,scd,hbxs⟩:=hbx.spell;have HRow:=hid (zfp.form hbxs.fm 53);obtain⟨x0,x1,x2,x3,_,xlt⟩:=hbxs.bx;obtain⟨HOw,HLf⟩:=hd2 ((HOc5.out.below hbx.bl).below ((Ze wr.heap.size wr).alloc (Za _) (.cells #[.slice sa sn sc,.bool sb,.slice san snn scn,.slice sad snd scd] 53))) ((zg8 (zdi bs ws k win x) T r i).trans HM.out.symm);have HM1:Hid (m+1=r*T+(i+1)):=Jn;clear hbx hbxs hs
       go_wp2_with (at_builtin;refine apF rfl (.tmp 66) (.tmp 68) rfl Wx.heap.size (.slice b0 m k0) m _ HLf.out rfl HOw.out.out.own _ s HRow.out rfl Ya HOw.out.out.bl.size ?_;intro b3 k3 w3 hown hk3 hg hbe hnx;have HOut3:=hid (show zg2 Wx w3 (.slice b3 (m+1) k3) (zeq (zdi bs ws k win x) T r (i+1)) wq.heap.size u from by rw[HStep.out];exact HOw.out.app hown hg hbe hnx);clear hown hg hbe hnx)
       exact Oz
    ·obtain rfl:i=T:=Ya;have HOn:Hid (zi3 Wx wv (.slice b0 m k0) (zeq (zdi bs ws n win x) i (r+1) 0)):=by unfold Hid;rw[<- zmn];exact HOc.out.out
     have HM1:Hid (m=(r+1)*i):=Xn;go_wp2;go_roundw
     case rel=>exact⟨r+1,m,b0,k0,hlt,HM1.out,rfl,Yg,HOn.out⟩
     case measure=>simp[intOf];omega
  ·obtain rfl:r=S.n2:=Ya;go_wp2;have hNP:zl9 w (zeq (zdi bs ws n win x) T S.n2 0) (.returned (.slice b0 m k0)) wq:=by
    obtain⟨a,c,e,ho,hb⟩:=HOut.out.ret ((zg8 _ _ _ _).trans HM.out.symm);exact⟨a,c,e,ho.mono HBx0.out.size,HBx0.out.trans (hb.mono HBx0.out.size)⟩
   exact Zp (v:=.slice b0 m k0) (by simp[results,Tryz.results56,go_sem]) rfl hNP
def ub(w:World)(gG:Nat):Option Nat:=match w.cell? ⟨gG,1,none⟩with|some v=>v.ownBlock|none=>none
structure LSt (w:World) (gG n:Nat) (U:List zl):Prop where
 g0:w.cell? ⟨gG,0,none⟩=some (.int .i64 (n:Int))
 g1:∃a c,w.cell? ⟨gG,1,none⟩=some (.slice a U.length c)/\zoQ w (gG+1) (.slice a U.length c) U
 g2:w.cell? ⟨gG,2,none⟩=some (.slice none 0 0)
 g3:∀o,3<=o->w.cell? ⟨gG,o,none⟩=none
 fz:∀o,w.frozen? ⟨gG,o,none⟩=false
 lt:gG<w.heap.size
structure Fre (gG:Nat) (w:World) (b:Nat):Prop where
 lt:b<w.heap.size
 ne:b≠gG
 nu:ub w gG≠some b
structure Stp (gG:Nat) (w w':World):Prop where
 os:w'.os=w.os
 tape:w'.tape=w.tape
 output:w'.output=w.output
 size:w.heap.size<=w'.heap.size
 block:∀k,k<w.heap.size->k≠gG->ub w gG≠some k->w'.heap[k]? =w.heap[k]?
 next:ub w' gG=ub w gG ∨ ∃k,ub w' gG=some k/\w.heap.size<=k
theorem Stp.refl(gG:Nat)(w:World):Stp gG w w:=⟨rfl,rfl,rfl,Za _,fun _ _ _ _=>rfl,.inl rfl⟩
theorem Stp.trans{a b c:World}(h:Stp gG a b)(k:Stp gG b c):Stp gG a c:=by
 refine⟨k.os.trans h.os,k.tape.trans h.tape,k.output.trans h.output,Zi h.size k.size,fun j hj hg hu=>(k.block j (Zb hj h.size) hg ?_).trans (h.block j hj hg hu),?_⟩
 ·rcases h.next with e|⟨q,e,hq⟩
  ·rw[e];exact hu
  ·rw[e];intro x;cases x;omega
 ·rcases k.next with e|⟨q,e,hq⟩
  ·rw[e];exact h.next
  ·exact .inr ⟨q,e,Zi h.size hq⟩
theorem Stp.of(hb:Below w.heap.size w w')(hg:gG<w.heap.size):Stp gG w w':=
 ⟨hb.os,hb.tape,hb.output,hb.size,fun k hk _ _=>hb.block k hk,.inl (by unfold ub;rw[hb.cell hg])⟩
theorem LSt.ub_ge(h:LSt w gG n U)(e:ub w gG=some k):gG<k/\k<w.heap.size:=by
 obtain⟨a,c,h1,ho⟩:=h.g1;unfold ub at e;rw[h1]at e;have:=ho.lt e;omega
theorem LSt.below(h:LSt w gG n U)(hb:Below w.heap.size w w'):LSt w' gG n U:=by
 obtain⟨g0,⟨a,c,h1,ho⟩,g2,g3,fz,lt⟩:=h;have k:=fun o=>hb.cell (p:=⟨gG,o,none⟩) lt
 exact⟨(k 0).trans g0,⟨a,c,(k 1).trans h1,ho.below zaX hb⟩,(k 2).trans g2,fun o ho=>(k o).trans (g3 o ho),fun o=>(hb.frozen lt).trans (fz o),Zb lt hb.size⟩
theorem Stp.below(h:Stp gG w w')(hs:LSt w gG n U):Below gG w w':=
 ⟨h.os,h.tape,h.output,h.size,fun k hk=>h.block k (by have:=hs.lt;omega) Ya (fun e=>by have:=hs.ub_ge e;omega)⟩
theorem LSt.fresh(h:LSt w gG n U)(hb:Below w.heap.size w w')(h1:w.heap.size<=b)(h2:b<w'.heap.size):Fre gG w' b:=by
 refine⟨h2,by have:=h.lt;omega,fun e=>?_⟩
 have e2:ub w' gG=ub w gG:=by unfold ub;rw[hb.cell h.lt]
 rw[e2]at e;have:=h.ub_ge e;omega
theorem Fre.stp(h:Fre gG w b)(hs:Stp gG w w'):Fre gG w' b:=by
 refine⟨Zb h.lt hs.size,h.ne,?_⟩
 rcases hs.next with e|⟨q,e,hq⟩
 ·rw[e];exact h.nu
 ·rw[e];intro x;cases x;have:=h.lt;omega
theorem Fre.block(h:Fre gG w b)(hs:Stp gG w w'):w'.heap[b]? =w.heap[b]? :=hs.block b h.lt h.ne h.nu
theorem Fre.cell(h:Fre gG w b)(hs:Stp gG w w'):w'.cell? ⟨b,o,none⟩=w.cell? ⟨b,o,none⟩:=ZS (h.block hs)
theorem Fre.frozen(h:Fre gG w b)(hs:Stp gG w w'):w'.frozen? ⟨b,o,none⟩=w.frozen? ⟨b,o,none⟩:=ZaT (h.block hs)
structure GBk (w:World) (gG:Nat):Prop where
 z0:∃x,w.cell? ⟨gG,0,none⟩=some (.int .i64 x)
 z1:∃a n c,w.cell? ⟨gG,1,none⟩=some (.slice a n c)
 z2:∃a n c,w.cell? ⟨gG,2,none⟩=some (.slice a n c)
 z3:∀o,3<=o->w.cell? ⟨gG,o,none⟩=none
theorem LSt.blk(h:LSt w gG n U):GBk w gG:=
 ⟨⟨_,h.g0⟩,(let ⟨_,_,h1,_⟩:=h.g1;⟨_,_,_,h1⟩),⟨_,_,_,h.g2⟩,h.g3⟩
theorem GBk.ne{w:World}{gG b o:Nat}{k:IntKind}{x:Int}(h:GBk w gG)(hc:w.cell? ⟨b,o,none⟩=some (.int k x))(hn:k=.u32 ∨ ∃u,w.cell? ⟨b,o+1,none⟩=some u/\∀a n c,u≠.slice a n c):b≠gG:=by
 rintro rfl;obtain⟨⟨y,h0⟩,⟨a1,n1,c1,h1⟩,⟨a2,n2,c2,h2⟩,h3⟩:=h
 match o,hc,hn with
 | 0,hc,hn=>
  rw[h0]at hc;cases hc
  rcases hn with hn|⟨u,hu,hn⟩
  ·cases hn
  ·rw[h1]at hu;cases hu;exact hn _ _ _ rfl
 | 1,hc,_=>rw[h1]at hc;cases hc
 | 2,hc,_=>rw[h2]at hc;cases hc
 | o+3,hc,_=>rw[h3 (o+3) Ya]at hc;cases hc
theorem LSt.fre{k:IntKind}{x:Int}(h:LSt w gG n U)(hc:w.cell? ⟨b,o,none⟩=some (.int k x))(hn:k=.u32 ∨ ∃u,w.cell? ⟨b,o+1,none⟩=some u/\∀a n c,u≠.slice a n c)(hb:b<w.heap.size):Fre gG w b:=by
 refine⟨hb,h.blk.ne hc hn,fun e=>?_⟩
 obtain⟨a,c,h1,ho⟩:=h.g1;unfold ub at e;rw[h1]at e;have:=ho.al b e o _ hc;cases this
theorem zw.gset(h:zw w a l)(hg:GBk w gG):zw (w.setCell ⟨gG,o,none⟩ u) a l:=by
 by_cases hl:l=[]
 ·exact IM
 obtain⟨b,off,rfl,hb,hc⟩:=h.open hl;have hp:=ZJ.2 hl;have hf:=hg.ne (hc 0 hp) (.inl rfl)
 refine⟨h.lim,h.len,h.row.imp id ?_⟩
 rintro⟨b',off',e,_,hcc⟩;cases e;exact⟨b,off,rfl,Kn,fun j d hj=>(zO YK).trans (hcc j d hj)⟩
theorem zbU.gset(h:zbU w p1 p2 p3 q)(hg:GBk w gG):zbU (w.setCell ⟨gG,o,none⟩ u) p1 p2 p3 q:=by
 obtain⟨an,ad,cn,cd,e1,e2,e3,l1,l2,u1,u2⟩:=h.ex;exact⟨an,ad,cn,cd,e1,e2,e3,l1,l2,u1.gset hg,u2.gset hg⟩
theorem zmm{L:List (Nat×Rat)}(h:zag w a L)(hg:GBk w gG):zag (w.setCell ⟨gG,o,none⟩ u) a L:=by
 refine⟨h.len,?_⟩
 rcases h.row with rfl|⟨b,off,rfl,hb,hc⟩
 ·exact .inl rfl
 ·by_cases hl:L=[]
  ·exact .inl hl
  ·have hp:=ZJ.2 hl;obtain⟨p0,p1,p2,p3,h0,h1,_,_,rfl,h4⟩:=hc 0 L[0] (Zh hp);obtain⟨_,_,_,_,rfl,_⟩:=h4.ex;have hf:=hg.ne h0 (.inr ⟨_,h1,fun _ _ _ e=>VY⟩)
   refine .inr ⟨b,off,rfl,Kn,fun j x hj=>?_⟩
   obtain⟨p0,p1,p2,p3,h0,h1,h2,h3,h4⟩:=hc j x hj;exact⟨p0,p1,p2,p3,(zO YK).trans h0,(zO YK).trans h1,(zO YK).trans h2,(zO YK).trans h3,h4.1,h4.2.gset hg⟩
theorem zaL.gset(h:zaL w p0 p1 p2 p3 f)(hg:GBk w gG):zaL (w.setCell ⟨gG,o,none⟩ u) p0 p1 p2 p3 f:=by
 obtain⟨⟨a,c,e,hc,ht⟩,hr⟩:=h;exact⟨⟨a,c,e,hc,zmm ht hg⟩,hr.gset hg⟩
theorem zw.stp(h:zw w a l)(hL:LSt w gG n U)(hs:Stp gG w w'):zw w' a l:=by
 by_cases hl:l=[]
 ·exact IM
 obtain⟨b,off,rfl,hb,hc⟩:=h.open hl;have hp:=ZJ.2 hl;have hf:=hL.fre (hc 0 hp) (.inl rfl) hb
 refine⟨h.lim,h.len,h.row.imp id ?_⟩
 rintro⟨b',off',e,_,hcc⟩;cases e;exact⟨b,off,rfl,Zb hb hs.size,fun j d hj=>(hf.cell hs).trans (hcc j d hj)⟩
theorem zbU.stp(h:zbU w p1 p2 p3 q)(hL:LSt w gG n U)(hs:Stp gG w w'):zbU w' p1 p2 p3 q:=by
 obtain⟨an,ad,cn,cd,e1,e2,e3,l1,l2,u1,u2⟩:=h.ex;exact⟨an,ad,cn,cd,e1,e2,e3,l1,l2,u1.stp hL hs,u2.stp hL hs⟩
theorem znI{L:List (Nat×Rat)}(h:zag w a L)(hL:LSt w gG n U)(hs:Stp gG w w'):zag w' a L:=by
 refine⟨h.len,?_⟩
 rcases h.row with rfl|⟨b,off,rfl,hb,hc⟩
 ·exact .inl rfl
 ·by_cases hl:L=[]
  ·exact .inl hl
  ·have hp:=ZJ.2 hl;obtain⟨p0,p1,p2,p3,h0,h1,_,_,rfl,h4⟩:=hc 0 L[0] (Zh hp);obtain⟨_,_,_,_,rfl,_⟩:=h4.ex;have hf:=hL.fre h0 (.inr ⟨_,h1,fun _ _ _ e=>VY⟩) hb
   refine .inr ⟨b,off,rfl,Zb hb hs.size,fun j x hj=>?_⟩
   obtain⟨p0,p1,p2,p3,h0,h1,h2,h3,h4⟩:=hc j x hj;exact⟨p0,p1,p2,p3,(hf.cell hs).trans h0,(hf.cell hs).trans h1,(hf.cell hs).trans h2,(hf.cell hs).trans h3,h4.1,h4.2.stp hL hs⟩
theorem zaL.stp(h:zaL w p0 p1 p2 p3 f)(hL:LSt w gG n U)(hs:Stp gG w w'):zaL w' p0 p1 p2 p3 f:=by
 obtain⟨⟨a,c,e,hc,ht⟩,hr⟩:=h;exact⟨⟨a,c,e,hc,znI ht hL hs⟩,hr.stp hL hs⟩
theorem zap.stp(h:zap w v f)(hL:LSt w gG n U)(hs:Stp gG w w'):zap w' v f:=by
 obtain⟨p0,p1,p2,p3,e,k⟩:=h.ex;exact⟨p0,p1,p2,p3,e,k.stp hL hs⟩
structure zee (gG:Nat) (w:World) (a:Option Addr) (L:List zl):Prop where
 at':zaz w a L
 fr:L=[] ∨ ∀p,a=some p->Fre gG w p.block
theorem zee.stp(h:zee gG w a L)(hL:LSt w gG n U)(hs:Stp gG w w'):zee gG w' a L:=by
 rcases h.fr with rfl|hf
 ·exact⟨zf5.nil _ _,.inl rfl⟩
 refine⟨⟨h.at'.len,?_⟩,.inr fun p e=>(hf p e).stp hs⟩
 rcases h.at'.row with rfl|⟨b,off,rfl,hb,hc⟩
 ·exact .inl rfl
 ·have hf:=hf _ rfl
  refine .inr ⟨b,off,rfl,Zb hb hs.size,fun j x hj=>?_⟩
  obtain⟨p0,p1,p2,p3,h0,h1,h2,h3,h4⟩:=hc j x hj;exact⟨p0,p1,p2,p3,(hf.cell hs).trans h0,(hf.cell hs).trans h1,(hf.cell hs).trans h2,(hf.cell hs).trans h3,h4.stp hL hs⟩
theorem zee.drop(h:zee gG w (some ⟨b,off,none⟩) L)(k:Nat):zee gG w (some ⟨b,off+k*4,none⟩) (L.drop k):=
 ⟨h.at'.drop k,h.fr.imp (by rintro rfl;simp) fun hf p e=>by cases e;exact hf ⟨b,off,none⟩ rfl⟩
theorem zee.take(h:zee gG w a L)(k:Nat):zee gG w a (L.take k):=⟨h.at'.take k,h.fr.imp (by rintro rfl;simp) id⟩
structure zgG (gG:Nat) (w:World) (base:Nat) (v:Value) (L:List zl):Prop where
 own:zoQ w base v L
 fr:∀b,v.ownBlock=some b->Fre gG w b
theorem zgG.nil(gG:Nat)(w:World)(base:Nat):zgG gG w base (.slice none 0 0) []:=⟨zdT.nil _ _,fun b e=>VY⟩
theorem zgG.stp(h:zgG gG w base v L)(hL:LSt w gG n U)(hs:Stp gG w w'):zgG gG w' base v L:=by
 refine⟨⟨?_,?_⟩,fun b e=>(h.fr b e).stp hs⟩
 ·obtain⟨xs,ho,he⟩:=h.own.ex
  refine⟨xs,⟨ho.1,?_⟩,fun j x hj=>?_⟩
  ·exact ED
  ·obtain⟨p0,p1,p2,p3,h0,h1,h2,h3,h4⟩:=he j x hj;exact⟨p0,p1,p2,p3,h0,h1,h2,h3,h4.stp hL hs⟩
 ·intro g e o x hx;rw[(h.fr g e).cell hs]at hx;exact h.own.al g e o x hx
theorem zgG.of(h:zoQ w' w.heap.size v L)(hL:LSt w gG n U)(hb:Below w.heap.size w w'):zgG gG w' w.heap.size v L:=
 ⟨h,fun b e=>hL.fresh hb (h.lt e).1 (h.lt e).2⟩
theorem zgG.read{c:Nat}(h:zgG gG w base (.slice a n c) L)(hl:L.length<=9223372036854775807):zee gG w a L:=
 ⟨h.own.read hl,.inr fun p e=>by subst e;exact h.fr _ rfl⟩
theorem zaY.fre(h:zaY w gL S)(hL:LSt w gG n U):Fre gG w gL:=hL.fre h.f0 (.inr ⟨_,h.f1,fun _ _ _ e=>VY⟩) h.lt
theorem zaY.stp(h:zaY w gL S)(hL:LSt w gG n U)(hs:Stp gG w w'):zaY w' gL S:=by
 have hf:=h.fre hL;obtain⟨f0,f1,f2,f3,f4,f5,f6,f7,f8,f9,f10,f11,f12,ff,lt⟩:=h;have k:=fun o=>hf.cell (o:=o) hs
 exact⟨(k 0).trans f0,(k 1).trans f1,(k 2).trans f2,(k 3).trans f3,(k 4).trans f4,(k 5).trans f5,(k 6).trans f6,(k 7).trans f7,(k 8).trans f8,(k 9).trans f9,(k 10).trans f10,(k 11).trans f11,(k 12).trans f12,
  fun i=>(hf.frozen hs).trans (ff i),Zb lt hs.size⟩
theorem zbd.stp{L:List (List Int)}(h:zbd w (Fre gG w) a L)(hs:Stp gG w w'):zbd w' (Fre gG w') a L:=
 (h.frame hs.size fun b hf _=>hf.block hs).mono fun b _ hf=>hf.stp hs
theorem LSt.unit{b:Option Addr}{c:Nat}(h:LSt w gG n U)(h1:w.cell? ⟨gG,1,none⟩=some (.slice a U.length c))(ho:zoQ w1 (gG+1) (.slice b (U.length+1) k) (U++[f]))
 (hg:w.grownBy w1 (Value.slice a U.length c).ownBlock)(hn:zi7 w (.slice a U.length c) (.slice b (U.length+1) k)):
  LSt (w1.setCell ⟨gG,1,none⟩ (.slice b (U.length+1) k)) gG n (U++[f])/\Stp gG w (w1.setCell ⟨gG,1,none⟩ (.slice b (U.length+1) k)):=by
 have hub:ub w gG=(Value.slice a U.length c).ownBlock:=by unfold ub;rw[h1]
 have hne:some gG≠(Value.slice a U.length c).ownBlock:=fun e=>by
  rw[<- hub]at e;have:=h.ub_ge e.symm;omega
 have lt1:gG<w1.heap.size:=Zb h.lt hg.size;have hblk:=hg.block gG h.lt hne;have kc:∀o,w1.cell? ⟨gG,o,none⟩=w.cell? ⟨gG,o,none⟩:=fun o=>ZS hblk
 have kf:∀o,w1.frozen? ⟨gG,o,none⟩=w.frozen? ⟨gG,o,none⟩:=fun o=>ZaT hblk
 have c1:(w1.setCell ⟨gG,1,none⟩ (.slice b (U.length+1) k)).cell? ⟨gG,1,none⟩=some (.slice b (U.length+1) k):=Z3 _ _ _ ((kc 1).trans h1);have co:∀o,o≠1->(w1.setCell ⟨gG,1,none⟩ (.slice b (U.length+1) k)).cell? ⟨gG,o,none⟩=w.cell? ⟨gG,o,none⟩:=fun o ho=>(ZA _ _ _ _ (fun e=>ho (by cases e;rfl))).trans (kc o)
 have hgb:GBk w1 gG:=⟨⟨_,(kc 0).trans h.g0⟩,⟨_,_,_,(kc 1).trans h1⟩,⟨_,_,_,(kc 2).trans h.g2⟩,fun o ho=>(kc o).trans (h.g3 o ho)⟩
 have hoff:∀q,q≠gG->(w1.setCell ⟨gG,1,none⟩ (.slice b (U.length+1) k)).heap[q]? =w1.heap[q]? :=fun q hq=>Zbv _ _ _ _ hq
 have hr0:zoQ (w1.setCell ⟨gG,1,none⟩ (.slice b (U.length+1) k)) (gG+1) (.slice b (U++[f]).length k) (U++[f]):=by
  have e:(U++[f]).length=U.length+1:=Yc;rw[e]
  refine⟨?_,?_⟩
  ·obtain⟨xs,hx,he⟩:=ho.ex
   refine⟨xs,⟨hx.1,?_⟩,fun j x hj=>?_⟩
   ·rcases hx.2 with k|⟨g,cap,cur,e1,k1,k2,k3⟩
    ·exact .inl k
    ·exact .inr ⟨g,cap,cur,e1,k1,(hoff g Ya).trans k2,k3⟩
   ·obtain⟨p0,p1,p2,p3,h0,h1',h2,h3,h4⟩:=he j x hj;exact⟨p0,p1,p2,p3,h0,h1',h2,h3,h4.gset hgb⟩
  ·intro g e o x hx;have:=ho.lt e;rw[zO (by show g≠gG;omega)]at hx;exact ho.al g e o x hx
 refine⟨⟨(co 0 Ya).trans h.g0,⟨b,k,by rw[c1];simp,hr0⟩,(co 2 Ya).trans h.g2,fun o ho=>(co o Ya).trans (h.g3 o ho),fun o=>?_,by simpa using lt1⟩,?_⟩
 ·simp only[Zai];exact(kf o).trans (h.fz o)
 ·refine⟨hg.os,hg.tape,hg.output,by simpa using hg.size,fun q hq hq1 hq2=>(hoff q hq1).trans (hg.block q hq (fun e=>hq2 (by rw[hub];exact e.symm))),?_⟩
  have e:ub (w1.setCell ⟨gG,1,none⟩ (.slice b (U.length+1) k)) gG=(Value.slice b (U.length+1) k).ownBlock:=by unfold ub;rw[c1]
  rw[e,hub];exact hn
theorem Stp.set(h:Stp gG w W)(hb:w.heap.size<=b)(hne:b≠gG):Stp gG w (W.setCell ⟨b,o,none⟩ u):=by
 have e:ub (W.setCell ⟨b,o,none⟩ u) gG=ub W gG:=by
  unfold ub;rw[zO (by exact fun e=>hne e.symm)]
 refine⟨h.os,h.tape,h.output,by simpa using h.size,fun k hk h1 h2=>?_,by rw[e];exact h.next⟩
 exact(Zbv _ _ _ _ (show k≠b from Ya)).trans (h.block k hk h1 h2)
theorem LSt.set(h:LSt w gG n U)(hf:Fre gG w b)(hb:zbC zco w b):LSt (w.setCell ⟨b,o,none⟩ u) gG n U:=by
 have hne:gG≠b:=fun e=>hf.ne e.symm
 obtain⟨g0,⟨a,c,h1,ho⟩,g2,g3,fz,lt⟩:=h;have k:∀q,(w.setCell ⟨b,o,none⟩ u).cell? ⟨gG,q,none⟩=w.cell? ⟨gG,q,none⟩:=fun q=>zO (by exact hne)
 have hub:∀g,(Value.slice a U.length c).ownBlock=some g->g≠b:=fun g e e2=>hf.nu Vt
 refine⟨(k 0).trans g0,⟨a,c,(k 1).trans h1,⟨?_,?_⟩⟩,(k 2).trans g2,fun q hq=>(k q).trans (g3 q hq),fun q=>by simp only[Zai];exact fz q,by simpa using lt⟩
 ·obtain⟨xs,hx,he⟩:=ho.ex
  refine⟨xs,⟨hx.1,?_⟩,fun j x hj=>?_⟩
  ·exact Ew
  ·obtain⟨p0,p1,p2,p3,h0,h1',h2,h3,h4⟩:=he j x hj;exact⟨p0,p1,p2,p3,h0,h1',h2,h3,h4.setCell hb o u⟩
 exact I7
theorem Fre.set{c:Nat}(h:Fre gG w b)(hne:c≠gG):Fre gG (w.setCell ⟨c,o,none⟩ u) b:=by
 refine⟨Kw,h.ne,?_⟩
 have e:ub (w.setCell ⟨c,o,none⟩ u) gG=ub w gG:=by
  unfold ub;rw[zO (by exact fun e=>hne e.symm)]
 rw[e];exact h.nu
theorem LSt.store4(h:LSt w gG n U)(hf:Fre gG w b)(hb:zbC zco w b)(hp:zco p0=true/\zco p1=true/\zco p2=true/\zco p3=true):
  LSt ((((w.setCell ⟨b,0,none⟩ p0).setCell ⟨b,1,none⟩ p1).setCell ⟨b,2,none⟩ p2).setCell ⟨b,3,none⟩ p3) gG n U:=
 (((h.set (o:=0) (u:=p0) hf hb).set (hf.set hf.ne) (hb.setCell 0 p0 hp.1)).set ((hf.set hf.ne).set hf.ne) ((hb.setCell 0 p0 hp.1).setCell 1 p1 hp.2.1)).set (((hf.set hf.ne).set hf.ne).set hf.ne) (((hb.setCell 0 p0 hp.1).setCell 1 p1 hp.2.1).setCell 2 p2 hp.2.2.1)
theorem Stp.store4(h:Stp gG w W)(hb:w.heap.size<=b)(hne:b≠gG):
  Stp gG w ((((W.setCell ⟨b,0,none⟩ p0).setCell ⟨b,1,none⟩ p1).setCell ⟨b,2,none⟩ p2).setCell ⟨b,3,none⟩ p3):=(((h.set hb hne).set hb hne).set hb hne).set hb hne
theorem LSt.unit_at{c:Nat}(h:LSt w gG n U)(h1:w.cell? ⟨gG,1,none⟩=some (.slice a U.length c))(hg:w.grownBy w1 (Value.slice a U.length c).ownBlock):
  w1.cell? ⟨gG,1,none⟩=some (.slice a U.length c)/\w1.frozen? ⟨gG,1,none⟩=false/\gG<w1.heap.size:=by
 have hub:ub w gG=(Value.slice a U.length c).ownBlock:=by unfold ub;rw[h1]
 have hne:some gG≠(Value.slice a U.length c).ownBlock:=fun e=>by
  rw[<- hub]at e;have:=h.ub_ge e.symm;omega
 have hblk:=hg.block gG h.lt hne;exact⟨(ZS hblk).trans h1,(ZaT hblk).trans (h.fz 1),Zb h.lt hg.size⟩
def zmA(gG n:Nat)(w:World)(U:List zl)(f:zl)(e:Ending)(w':World):Prop:=∃v,e=.returned v/\zap w' v f/\LSt w' gG n U/\Stp gG w w'
theorem zmA.ret(h:zap W (.agg #[p0,p1,p2,p3]) f)(hL:LSt W gG n U)(hg:zbC zco W g)(hf:Fre gG W g)(hs:Stp gG w W)(hge:w.heap.size<=g):
  zmA gG n w U f (.returned (.agg #[p0,p1,p2,p3])) ((((W.setCell ⟨g,0,none⟩ p0).setCell ⟨g,1,none⟩ p1).setCell ⟨g,2,none⟩ p2).setCell ⟨g,3,none⟩ p3):=by
 have hp:zco p0=true/\zco p1=true/\zco p2=true/\zco p3=true:=h.fp.bs;exact⟨_,rfl,h.store4 hg hp,hL.store4 hf hg hp,hs.store4 hge hf.ne⟩
theorem za2.un(h:za2 w f e w')(hL:LSt w gG n U):zmA gG n w U f e w':=by
 obtain⟨v,he,hv,hb⟩:=h;exact⟨v,he,hv,hL.below hb,Stp.of hb hL.lt⟩
theorem zfo.stp(h:zfo w g p0 p1 p2 p3 f)(hL:LSt w gG n U)(hs:Stp gG w w')(hf:Fre gG w g):zfo w' g p0 p1 p2 p3 f:=by
 obtain⟨⟨c0,c1,c2,c3,fz,lt⟩,al,fm⟩:=h;exact⟨⟨(hf.cell hs).trans c0,(hf.cell hs).trans c1,(hf.cell hs).trans c2,(hf.cell hs).trans c3,by first|exact(hf.frozen hs).trans fz|exact fun i=>(hf.frozen hs).trans (fz i),Zb lt hs.size⟩,fun o x e=>al o x (by rw[hf.cell hs]at e;exact e),fm.stp hL hs⟩
theorem zst{w:World}{gG n:Nat}{U:List zl}{v:Value}{f:zl}(hL:LSt w gG n U)(hv:zap w v f)(hn:n<=1000000)(hU:U.length<=1000000):
  Calls Tryz.prog 33 #[v,.pointer (some ⟨gG,0,none⟩)] w (zmA gG n w (U++[f]) (zbv (n+U.length))):=by
 obtain⟨p0,p1,p2,p3,rfl,hF⟩:=hv.ex;have x2:=zfo.alloc hF 53;have b2:=blA w (.cells #[p0,p1,p2,p3] 53);have s2:(w.alloc (.cells #[p0,p1,p2,p3] 53)).heap.size=w.heap.size+1:=Yc;obtain⟨W2,hW2⟩:∃W2,W2=w.alloc (.cells #[p0,p1,p2,p3] 53):=⟨_,rfl⟩
 rw[<- hW2]at x2 b2 s2;have x3:=zfo.alloc (za6 W2) 53;have b3:=blA W2 (.cells #[.slice none 0 0,.bool false,.slice none 0 0,.slice none 0 0] 53);have s3:(W2.alloc (.cells #[.slice none 0 0,.bool false,.slice none 0 0,.slice none 0 0] 53)).heap.size=w.heap.size+2:=by simp[s2]
 obtain⟨W3,hW3⟩:∃W3,W3=W2.alloc (.cells #[.slice none 0 0,.bool false,.slice none 0 0,.slice none 0 0] 53):=⟨_,rfl⟩
 rw[<- hW3]at x3 b3 s3;rw[s2]at x3;have x22:=x2.below b3;have b3':Below w.heap.size w W3:=b2.trans (b3.mono b2.size);obtain⟨p0',p1',p2',p3',hp⟩:∃a n c b an nn cn ad nd cd,p0=.slice a n c/\p1=.bool b/\p2=.slice an nn cn/\p3=.slice ad nd cd:=hF.spell;obtain⟨yan,ynn,ycn,yad,ynd,ycd,rfl,rfl,rfl,rfl⟩:=hp;have x4:=zfp.form x22.fm 53;obtain⟨HL3,HX2,HX3,HB3,HS3,HW⟩:=hd6 (hL.below b3') x22 x3 b3' s3 hW3;rw[hW2]at HW;have HO4:=hid x4;obtain⟨a,c,hc1,ho⟩:=HL3.out.g1;have b4:=blA W3 (.cells #[.slice p0' p1' p2',.bool p3',.slice yan ynn ycn,.slice yad ynd ycd] 53);obtain⟨HL4,HB4,HOw,HC1⟩:=hd4 (HL3.out.below b4) b4 (ho.below zaX b4) ((b4.cell (p:=⟨gG,1,none⟩) HL3.out.lt).trans hc1);clear x2 x22 x3 b2 b3 s2 s3 hW2 hW3 hF hv x4 b3' b4 ho
 go_enter Tryz.func33,Tryz.ntmps33
 go_upto_region 1 with fail
 rw[<- HW.out];clear HW;obtain⟨kx0,kx1,kx2,kx3,kf,klt⟩:=HX2.out.bx;have gfz:=HL3.out.fz 1;have glt:=HL3.out.lt;obtain⟨HGb,HF3⟩:=hd2 (show gG+1<=(W3.alloc (.cells #[.slice p0' p1' p2',.bool p3',.slice yan ynn ycn,.slice yad ynd ycd] 53)).heap.size from by have:=HL4.out.lt;omega) (LSt.fresh (b:=w.heap.size+1) hL (w:=w) (w':=W3.alloc (.cells #[.slice p0' p1' p2',.bool p3',.slice yan ynn ycn,.slice yad ynd ycd] 53)) (HB3.out.trans (HB4.out.mono HB3.out.size)) Ya (by have:=HS3.out;have:=HB4.out.size;omega))
 go_upto_region 2 with(at_builtin;refine apF rfl (.tmp 5) (.tmp 7) rfl (gG+1) (.slice a U.length c) U.length U rfl rfl HOw.out _ f HO4.out rfl Ya HGb.out ?_;intro b3 k3 w3 hown hk3 hg hbe hnx;have HU:=hid (HL4.out.unit HC1.out hown hg hnx);obtain⟨q1,q2,q3⟩:=HL4.out.unit_at HC1.out hg;clear hown hg hbe hnx)
 generalize w3.setCell ⟨gG,1,none⟩ (.slice b3 (U.length+1) k3)=w4 at *;obtain⟨HSt,HLu,HXt,HFt⟩:=hd4 ((Stp.of (HB3.out.trans (HB4.out.mono HB3.out.size)) hL.lt).trans HU.out.2) HU.out.1 ((HX3.out.below HB4.out).stp HL4.out HU.out.2 HF3.out) (HF3.out.stp HU.out.2);clear kx0 kx1 kx2 kx3 kf klt gfz glt q1 q2 q3 HU HF3 HO4 HOw HC1 HL4 HX2 HX3 hc1 HGb HB4;obtain⟨a4,c4,hc4,ho4⟩:=HLu.out.g1;rw[show(U++[f]).length=U.length+1 from Yc]at hc4;have g0:=HLu.out.g0;have HV:=hid (zjd w4 (n+U.length));clear ho4
 go_wp2_with fail
 have e:((n:Int)+((U.length:Int)+1)-1)=((n+U.length:Nat):Int):=Ya;have e2:IntKind.i64.wrap ((n+U.length:Nat):Int)=((n+U.length:Nat):Int):=IntWalk.i64_in _ Ya;rw[e]
 refine HV.out.mono ?_
 rintro e w5 ⟨v5,rfl,hv5,hb5⟩;obtain⟨z0,z1,z2,z3,zb,zan,znn,zcn,zad,znd,rfl⟩:=hv5.spell;obtain⟨HL5,HS5,HX5,HF5⟩:=hd4 (HLu.out.below hb5) (HSt.out.trans (Stp.of hb5 HLu.out.lt)) (HXt.out.stp HLu.out (Stp.of hb5 HLu.out.lt) HFt.out) (HFt.out.stp (Stp.of hb5 HLu.out.lt));have HO:=hid (zmA.ret (w:=w) hv5 HL5.out HX5.out.al HF5.out HS5.out Ya);obtain⟨r0,r1,r2,r3,rf,rlt⟩:=HX5.out.bx;clear hv5 hb5 HV HL5 HS5 HX5 HF5 HLu HSt HXt HFt;generalize zbv (n+U.length)=R at *;go_wp2;exact Zp (by simp[results,Tryz.results33,go_sem,r0,r1,r2,r3,rlt,Zbc rlt]) rfl HO.out
inductive Su where
 | val (x:Value)
 | frm (f:zl)
 | onf (f:zl)
 | sl1 (x:Value)
def GU(gG:Nat)(L:List Su)(i:Nat)(v:Value)(w:World):Prop:=
 match L[i]? with
 | some (.val x)=>v=x
 | some (.frm f)=>zap w v f
 | some (.onf f)=>zfp zaL w v f/\∀b,v.ownBlock=some b->Fre gG w b
 | some (.sl1 x)=>∃g,v=.slice (some ⟨g,0,none⟩) 1 1/\Fre gG w g/\w.cell? ⟨g,0,none⟩=some x
 | none=>True
theorem zfp.stp(h:zfp zaL w v f)(hf:∀b,v.ownBlock=some b->Fre gG w b)(hL:LSt w gG n U)(hs:Stp gG w w'):zfp zaL w' v f:=by
 obtain⟨g,p0,p1,p2,p3,rfl,hg,c0,c1,c2,c3,hp⟩:=h.ex;have hf:=hf g rfl;exact⟨g,p0,p1,p2,p3,rfl,Zb hg hs.size,(hf.cell hs).trans c0,(hf.cell hs).trans c1,(hf.cell hs).trans c2,(hf.cell hs).trans c3,hp.stp hL hs⟩
theorem zqy{L:List Su}(h:GU gG L i v w)(hL:LSt w gG n U)(hs:Stp gG w w'):GU gG L i v w':=by
 unfold GU at h⊢
 split
 ·exact IN
 ·rename_i x hx;rw[hx]at h;exact zap.stp h hL hs
 ·rename_i x hx;rw[hx]at h;exact⟨zfp.stp h.1 h.2 hL hs,fun b e=>(h.2 b e).stp hs⟩
 ·rename_i x hx;rw[hx]at h;obtain⟨g,e,k1,k2⟩:=h;exact⟨g,e,k1.stp hs,(k1.cell hs).trans k2⟩
 ·trivial
structure zfe (gG n:Nat) (W1:World) (U U':List zl) (j:Nat) (L:List Su) (d:Nat->Bool) (g:Nat->Value) (W:World):Prop where
 st:Stp gG W1 W
 un:LSt W gG n (if d j=true then U' else U)
 all:∀i,d i=true->GU gG L i (g i) W
theorem zfe.start{L:List Su}(h:LSt W1 gG n U)(g:Nat->Value):zfe gG n W1 U U' j L (fun _=>false) g W1.drew:=
 ⟨Stp.of (Ze _ _).drew h.lt,by simpa using h.below (Ze _ _).drew,fun _ h=>YP⟩
theorem zaJ{d:Nat->Bool}(h:j≠i):zdj d i j=d j:=by unfold zdj;rw[Zg h]
theorem zfe.step{L:List Su}{d:Nat->Bool}{g:Nat->Value}(h:zfe gG n W1 U U' j L d g W)(hi:j≠i)(hb:Below W.heap.size W W')(hv:GU gG L i v W'):zfe gG n W1 U U' j L (zdj d i) (upd g i v) W':=by
 have hs:=Stp.of hb h.un.lt
 refine⟨h.st.trans hs,by rw[zaJ hi];exact h.un.below hb,fun k hk=>?_⟩
 unfold upd
 by_cases e:k=i
 ·subst e;rw[Zm rfl];exact hv
 ·rw[Zg e];rw[zaJ e]at hk;exact zqy (h.all k hk) h.un hs
theorem zfe.here{L:List Su}{d:Nat->Bool}{g:Nat->Value}(h:zfe gG n W1 U U' j L d g W)(hi:j≠i)(hv:GU gG L i v W):zfe gG n W1 U U' j L (zdj d i) (upd g i v) W:=h.step hi (Ze _ _) hv
theorem zfe.unit{L:List Su}{d:Nat->Bool}{g:Nat->Value}(h:zfe gG n W1 U U' j L d g W)(hL:LSt W' gG n U')(hs:Stp gG W W')(hv:GU gG L j v W'):zfe gG n W1 U U' j L (zdj d j) (upd g j v) W':=by
 refine⟨h.st.trans hs,by rw[Zm (by unfold zdj;simp)];exact hL,fun k hk=>?_⟩
 unfold upd
 by_cases e:k=j
 ·subst e;rw[Zm rfl];exact hv
 ·rw[Zg e];rw[zaJ e]at hk;exact zqy (h.all k hk) h.un hs
theorem zfe.old{L:List Su}{d:Nat->Bool}{g:Nat->Value}(h:zfe gG n W1 U U' j L d g W)(hd:d j=false):LSt W gG n U:=by
 have:=h.un
 rwa [Zg (by rw[hd];simp)]at this
theorem zfe.new{L:List Su}{d:Nat->Bool}{g:Nat->Value}(h:zfe gG n W1 U U' j L d g W)(hd:d j=true):LSt W gG n U':=by
 have:=h.un
 rwa [Zm hd]at this
theorem zfe.same{L:List Su}{d:Nat->Bool}{g:Nat->Value}(h:zfe gG n W1 U U j L d g W):LSt W gG n U:=by
 have:=h.un
 rwa [ite_self]at this
theorem ztx(w:World)(a b:Int)(a1: -9223372036854775808<=a)(a2:a<=9223372036854775807)(b1: -9223372036854775808<=b)(b2:b<=9223372036854775807)(hb0:b≠0):
  Calls Tryz.prog 92 #[.int .i64 a,.int .i64 b] w (zmV w (zc ((a:Rat)/(b:Rat))) 0):=by
 have hR:=za4.alloc w (.bool false) (.slice none 0 0) (.slice none 0 0) 51;have hN:=zX.alloc w #[.bool false,.slice none 0 0,.slice none 0 0] 51 Yc;have hB0:=blA w (zc9 51);obtain⟨HO1,HO2,HR,HN,HB⟩:=hd5 (fun wv=>iOf wv a a1 a2) (fun wv=>iOf wv b b1 b2) hR hN hB0;have HQ:Hid (∀(g1:Bool) (x1:Nat) (g2:Bool) (x2:Nat),sgn g1 x1=a->sgn g2 x2=b->mkRat (sgn (g1 != g2) x1) x2=(a:Rat)/(b:Rat)):=fun g1 x1 g2 x2 h1 h2=>by
  have h:=zt3 g1 g2 x1 x2 1 1;rw[Zba,Zao,h1,h2,Zby,Zby]at h;exact h
 have la:=zbx (n:=a.natAbs) Ya;have lb:=zbx (n:=b.natAbs) Ya;have HB0:=hid hb0;clear hR hN hB0 hb0
 go_enter Tryz.func92,Tryz.ntmps92
 go_wp2_with fail
 refine(HO1.out _).mono ?_
 rintro e w1 ⟨v1,g1,x1,rfl,i1,e1,hb1⟩;obtain⟨HE1,I1,HRb1,HNb1⟩:=hd4 e1 i1 (HR.out.below hb1) (HN.out.below hb1 HR.out.lt);have HB1:=htr HB hb1;clear HO1 HR HN HB i1 hb1 e1
 go_wp2_with fail
 refine(HO2.out _).mono ?_
 rintro e w2 ⟨v2,g2,x2,rfl,i2,e2,hb2⟩;have hx2:0<x2:=by
  rcases ZaI x2 with h|h
  ·rw[h]at e2;exfalso;refine HB0.out ?_;rw[<- e2];cases g2<;>rfl
  ·exact h
 have hM:=ztB (I1.out.below hb2) i2 hx2 Ya Ya;rw[HQ.out g1 x1 g2 x2 HE1.out e2]at hM;obtain⟨HM,HR2,HN2⟩:=hd3 hM (HRb1.out.below hb2) (HNb1.out.below hb2 HRb1.out.lt);have HB2:=htr HB1 hb2;clear HO2 HRb1 HNb1 HB1 i2 hb2 hM I1 e2 hx2 HE1
 go_wp2_with fail
 refine HM.out.mono ?_
 rintro e w5 ⟨v5,rfl,⟨bn',bd',m1,m2,rfl,k3,k4,k5,k6⟩,k2⟩;obtain⟨r0,r1,r2,rf,rlt⟩:=HR2.out.below k2;obtain⟨hN5,K5,K6⟩:=hd3 (HN2.out.below k2 HR2.out.lt) k5 k6;have hB5:=htr HB2 k2;clear HM k5 k6 k2;generalize zc ((a:Rat)/(b:Rat))=R at *;go_wp2;exact Zp (v:=.tuple #[.agg #[.bool R.neg,.slice bn' R.num.length m1,.slice bd' R.den.length m2],.int .i64 0]) (by simp[results,Tryz.results92,go_sem,r0,r1,r2]) rfl ⟨_,rfl,RatV.store hN5.out k3 k4 K5.out K6.out,zu hB5.out (Za _) _ _ _⟩
structure MnF (w wr:World) (f:zl):Prop where
 ac:AcF w wr (w.heap.size+1) f
 rb:zbl wr w.heap.size (.slice none 0 0) (.bool false) (.slice none 0 0) (.slice none 0 0)
 ra:zbC zco wr w.heap.size
theorem MnF.below(h:MnF w wr f)(hb:Below wr.heap.size wr W):MnF w W f:=⟨h.ac.below hb,h.rb.below hb,h.ra.below hb h.rb.lt⟩
theorem MnF.step{k:zl}{q0 q1 q2 q3:Value}(h:MnF w wr f)(hb:Below wr.heap.size wr W)(hk:zaL W q0 q1 q2 q3 k):
  MnF w ((((W.setCell ⟨w.heap.size+1,0,none⟩ q0).setCell ⟨w.heap.size+1,1,none⟩ q1).setCell ⟨w.heap.size+1,2,none⟩ q2).setCell ⟨w.heap.size+1,3,none⟩ q3) k:=by
 have hne:w.heap.size+1≠w.heap.size:=Ya;have h2:=h.below hb;exact⟨h.ac.step hb hk,(((h2.rb.far hne 0 q0).far hne 1 q1).far hne 2 q2).far hne 3 q3,(((h2.ra.far hne 0 q0).far hne 1 q1).far hne 2 q2).far hne 3 q3⟩
theorem MnF.start(w:World)(T:Nat):MnF w ((w.alloc (.cells #[.slice none 0 0,.bool false,.slice none 0 0,.slice none 0 0] T)).alloc (.cells #[.slice none 0 0,.bool false,.slice none 0 0,.slice none 0 0] T)) zcB:=by
 have x1:=zfo.alloc (za6 w) T;have b1:=blA w (.cells #[.slice none 0 0,.bool false,.slice none 0 0,.slice none 0 0] T);have s1:(w.alloc (.cells #[.slice none 0 0,.bool false,.slice none 0 0,.slice none 0 0] T)).heap.size=w.heap.size+1:=Yc;obtain⟨W1,hW1⟩:∃W1,W1=w.alloc (.cells #[.slice none 0 0,.bool false,.slice none 0 0,.slice none 0 0] T):=⟨_,rfl⟩
 rw[<- hW1]at x1 b1 s1⊢;have x2:=zfo.alloc (za6 W1) T;have b2:=blA W1 (.cells #[.slice none 0 0,.bool false,.slice none 0 0,.slice none 0 0] T);rw[s1]at x2;exact⟨⟨⟨_,_,_,_,x2⟩,b1.trans (b2.mono b1.size),Ya⟩,x1.bx.below b2,x1.al.below b2 x1.bx.lt⟩
theorem ztP{c:Nat}{l:List zl}(hX:zaz w a l)(hl:l.length=n)(h1:1<=n)(hn:n<=1000000)(bl:zcp D B N l)(hD:0<D)(hP:Pay (n*D) (2*(n*B)+B+1))(hN:N<=500000):
  Calls Tryz.prog 59 #[.slice a n c] w (za2 w (zfP l)):=by
 obtain⟨PP,hPE,hPP⟩:∃PP:Prop,PP=Pay (n*D) (2*(n*B)+B+1)/\PP:=⟨_,rfl,hP⟩
 obtain⟨HPE,HPP,HX,HLn,HBl,HS0⟩:=hd6 hPE hPP hX hl bl (MnF.start w 53);have hnD:D<=n*D:=Zad D Ya;have HnD:=hid hnD;clear hX hl bl hP hPE hPP hnD
 go_enter Tryz.func59,Tryz.ntmps59
 go_upto_region 2 with fail
 generalize(w.alloc (.cells #[.slice none 0 0,.bool false,.slice none 0 0,.slice none 0 0] 53)).alloc (.cells #[.slice none 0 0,.bool false,.slice none 0 0,.slice none 0 0] 53)=W0 at *;go_wp2
 go_loopw [10] (fun i wi=>∃k:Nat,k<=n/\i=.int .i64 (k:Int)/\Hid (MnF w wi (zhw l k))) (fun i _=>n-(intOf i).toNat)
 case atStart=>exact⟨0,Zs _,rfl,HS0.out⟩
 case round=>
  obtain⟨k,hk,rfl,HI⟩:=hrel
  by_cases hlk:k<n
  ·have hbi:Below w.heap.size w wr:=HI.out.ac.bl;obtain⟨bx,ox,y,q0,q1,q2,q3,hax,hbx,hyy,yc0,yc1,yc2,yc3,hyv⟩:=HX.out.pick (k:=k) (by rw[HLn.out];exact hlk);obtain⟨ya,yn,yc,yb,yan,ynn,ycn,yad,ynd,ycd,rfl,rfl,rfl,rfl⟩:=hyv.spell;have hxk:l.getD k zcB=y:=by rw[Zd,hyy];rfl
   have yc0:=(hbi.cell (p:=⟨bx,ox+k*4,none⟩) hbx).trans yc0;have yc1:=(hbi.cell (p:=⟨bx,ox+k*4+1,none⟩) hbx).trans yc1;have yc2:=(hbi.cell (p:=⟨bx,ox+k*4+2,none⟩) hbx).trans yc2;have yc3:=(hbi.cell (p:=⟨bx,ox+k*4+3,none⟩) hbx).trans yc3;have hbx2:=Zb hbx hbi.size;have hal:=blA wr (.cells #[.slice ya yn yc,.bool yb,.slice yan ynn ycn,.slice yad ynd ycd] 53);obtain⟨HI2,HYb,HYv,Hyb,HHx⟩:=hd5 (HI.out.below hal) (zbl.alloc wr (.slice ya yn yc) (.bool yb) (.slice yan ynn ycn) (.slice yad ynd ycd) 53) (zaX.below (zaX.below hyv (hbi)) hal) (show BdF D B N y from by rw[<- hxk];exact HBl.out.at hD k) hxk;clear hyy hyv hxk hal hbi HI;rw[hax]
   go_upto_region 5 with fail
   generalize wr.alloc (.cells #[.slice ya yn yc,.bool yb,.slice yan ynn ycn,.slice yad ynd ycd] 53)=wj at *;obtain⟨sa,sn,sc,sb,san,snn,scn,sad,snd,scd,hbxs⟩:=HI2.out.ac.spell;obtain⟨s0,s1,s2,s3,sf,slt⟩:=hbxs.bx;obtain⟨z0,z1,z2,z3,zf,zlt⟩:=HYb.out;have HAdd:Hid (Calls Tryz.prog 60 #[.agg #[.slice sa sn sc,.bool sb,.slice san snn scn,.slice sad snd scd],.agg #[.slice ya yn yc,.bool yb,.slice yan ynn ycn,.slice yad ynd ycd]] wj (za2 wj (zhw l (k+1)))):=by
    show Calls _ _ _ _ (za2 wj (zbi 1 (zhw l k) (l.getD k zcB)))
    rw[HHx.out];have e:(k+1)*B<=n*B:=Zl _ hlk;rw[Zac]at e;have h:=HPP.out;rw[HPE.out]at h;exact zr9 hbxs.fm.val HYv.out.val (BdF.plus HBl.out hD k) Hyb.out (h.le HnD.out Ya) hN
   clear hbxs yc0 yc1 yc2 yc3
   go_wp2_with fail
   refine HAdd.out.mono ?_
   rintro e w5 ⟨v5,rfl,hv,hb⟩;obtain⟨na,nn,nc,nb,nan,nnn,ncn,nad,nnd,ncd,rfl⟩:=hv.spell;have HSt:=hid (HI2.out.step hb hv.fp);obtain⟨_,_,_,_,hbz⟩:=(HI2.out.below hb).ac.ex;obtain⟨x0,x1,x2,x3,xf,xlt⟩:=hbz.bx;clear hv hb hbz HAdd s0 s1 s2 s3 sf slt z0 z1 z2 z3 zf zlt;go_wp2;go_roundw
   case rel=>exact⟨k+1,hlk,Yg,HSt.out⟩
   case measure=>simp[intOf];omega
  ·obtain rfl:k=n:=Ya;have HFr:Hid (∀X,Calls Tryz.prog 92 #[.int .i64 1,.int .i64 (k:Int)] X (zmV X (zc (1/((k:Int):Rat))) 0)):=fun X=>by
    have h:=ztx X 1 (k:Int) Yd Yd Ya Ya Ya;rw[show(((1:Int):Rat))=1 from rfl]at h;exact h
   have HIk:=hid HI.out;clear HI
   go_wp2_with fail
   refine(HFr.out _).mono ?_
   rintro e w5 ⟨v5,rfl,hv,hb⟩;have HI5:=hid (HIk.out.below hb);obtain⟨p1,p2,p3,rfl,hrc⟩:=zbU.of hv;obtain⟨pb,pan,pnn,pcn,pad,pnd,pcd,e⟩:=hv.spell;cases e;obtain⟨HB6,HK6⟩:=hd2 ((Ze w5.heap.size w5).alloc (Za _) (.cells #[.bool pb,.slice pan pnn pcn,.slice pad pnd pcd] 51)) (za4.alloc w5 (.bool pb) (.slice pan pnn pcn) (.slice pad pnd pcd) 51);obtain⟨HI6,HV6⟩:=hd2 (HI5.out.below HB6.out) (hv.below HB6.out);clear hv hb hrc HFr HIk HI5
   go_upto_region 8 with fail
   generalize w5.alloc (.cells #[.bool pb,.slice pan pnn pcn,.slice pad pnd pcd] 51)=W6 at *;obtain⟨sa,sn,sc,sb,san,snn,scn,sad,snd,scd,hbxs⟩:=HI6.out.ac.spell;obtain⟨s0,s1,s2,s3,sf,slt⟩:=hbxs.bx;obtain⟨z0,z1,z2,zf,zlt⟩:=HK6.out;have HSc:Hid (Calls Tryz.prog 89 #[.agg #[.slice sa sn sc,.bool sb,.slice san snn scn,.slice sad snd scd],.agg #[.bool pb,.slice pan pnn pcn,.slice pad pnd pcd]] W6 (za2 W6 (zfP l))):=by
    unfold zfP;rw[HLn.out];have h:=HPP.out;rw[HPE.out]at h;exact zqE hbxs.fm.val HV6.out (Bd.inv Ya) (BdF.plus HBl.out hD k) (h.le (Za _) (by rw[Zao];omega)) hN
   clear hbxs
   go_wp2_with fail
   refine HSc.out.mono ?_
   rintro e w7 ⟨v7,rfl,hv,hb⟩;obtain⟨na,nn,nc,nb,nan,nnn,ncn,nad,nnd,ncd,rfl⟩:=hv.spell;have HI7:=hid (HI6.out.below hb);have HO:=hid (hv.ret HI7.out.ra HI7.out.ac.bl (Za _));obtain⟨r0,r1,r2,r3,rf,rlt⟩:=HI7.out.rb;clear hv hb HSc s0 s1 s2 s3 sf slt z0 z1 z2 zf zlt HI6 HV6 HK6 HB6;generalize zfP l=R at *;go_wp2;exact Zp (by simp[results,Tryz.results59,go_sem,r0,r1,r2,r3,rlt,Zbc rlt]) rfl HO.out
theorem BdF.greatB{D B N:Nat}(hD:0<D)(hB:1<=B)(nI:Nat):∀(fuel:Nat) (U l:List zl),zcp D B N l->1<=l.length->l.length<=fuel->nI+U.length+(l.length-1)<=N->BdF D (B+fuel) N (zZ nI fuel U l).2
 | 0,U,l,_,h1,h2,_=>by omega
 | fuel+1,U,l,hl,h1,h2,hN=>by
  by_cases hc:l.length<=1
  ·rw[zcA Ya];exact(hl.at hD 0).mono Ya (Za _)
  ·have t1:(l.take ((l.length+1)/2)).length=(l.length+1)/2:=Yy;have t2:(l.drop ((l.length+1)/2)).length=l.length-(l.length+1)/2:=Za6;have a2:=BdF.greatB hD hB nI fuel U (l.take ((l.length+1)/2)) (fun f hf=>hl f (ZT hf)) Ya Ya Ya;have c1:=(zax nI fuel U (l.take ((l.length+1)/2)) Ya Ya)
   have b2:=BdF.greatB hD hB nI fuel (zZ nI fuel U (l.take ((l.length+1)/2))).1 (l.drop ((l.length+1)/2)) (fun f hf=>hl f (ZX hf)) Ya Ya Ya;have c2:=(zax nI fuel (zZ nI fuel U (l.take ((l.length+1)/2))).1 (l.drop ((l.length+1)/2)) Ya Ya)
   rw[zb6 Ya rfl rfl];exact(a2.add (BdF.var (B:=1) hD Ya Ya)).mono Ya (Za _)
def zlG(gG:Nat):Value:=.func (.func 33) #[] #[.pointer (some ⟨gG,0,none⟩)]
theorem zpM{gL gG n D B N e:Nat}{S:zdp}(hfu:S.fu=zlG gG)(hn:n<=1000000)(hD:0<D)(hB:1<=B)(hN:N<=500000)(hP:Pay D (2*(B+e))):∀(m:Nat) (w:World) (U l:List zl) (a:Option Addr) (c:Nat),m<=e->zaY w gL S->LSt w gG n U->zee gG w a l->zcp D B N l->
  1<=l.length->l.length<=m->n+U.length+(l.length-1)<=N->l.length<=c->
  Calls Tryz.prog 58 #[.pointer (some ⟨gL,0,none⟩),.slice a l.length c] w (zmA gG n w (zZ n m U l).1 (zZ n m U l).2):=by
 obtain⟨PP,hPE,hPP⟩:∃PP:Prop,PP=Pay D (2*(B+e))/\PP:=⟨_,rfl,hP⟩
 obtain⟨HPE,HPP⟩:=hd2 hPE hPP;clear hP hPE hPP;intro m
 induction m with
 | zero=>intro w U l a c _ _ _ _ _ h1 h2 _ _;omega
 | succ m ih=>
  intro w U l a c hme hBx hL hR hBd h1 h2 hU hc;have IH:=hid ih;clear ih;have x1:=zfo.alloc (za6 w) 53;have b1:=blA w (.cells #[.slice none 0 0,.bool false,.slice none 0 0,.slice none 0 0] 53);have s1:(w.alloc (.cells #[.slice none 0 0,.bool false,.slice none 0 0,.slice none 0 0] 53)).heap.size=w.heap.size+1:=Yc;obtain⟨W1,hW1⟩:∃W1,W1=w.alloc (.cells #[.slice none 0 0,.bool false,.slice none 0 0,.slice none 0 0] 53):=⟨_,rfl⟩
  rw[<- hW1]at x1 b1 s1;obtain⟨HW,HX1,HS1,HL1⟩:=hd4 hW1 x1 (Stp.of b1 hL.lt) (hL.below b1);obtain⟨HR1,HB1,HF1,HBd,HU,Hge⟩:=hd6 (hR.stp hL HS1.out) (hBx.below b1) (hL.fresh b1 (Za _) Ya) hBd hU (s1);clear hW1 x1 hBx hR hBd hU s1 b1
  by_cases hone:l.length=1
  ·have hd:decide ((l.length:Int)=1)=true:=Yi;obtain⟨b,off,x,p0,p1,p2,p3,rfl,hb,hx,c0,c1,c2,c3,hp⟩:=HR1.out.at'.pick (k:=0) Ya;obtain⟨ya,yn,yc,yb,yan,ynn,ycn,yad,ynd,ycd,rfl,rfl,rfl,rfl⟩:=hp.spell;simp only[Zbe,ZU]at c0 c1 c2 c3;have hx0:l.getD 0 zcB=x:=by rw[Zd,hx];rfl
   have HO:=hid (zmA.ret (w:=w) hp.val HL1.out HX1.out.al HF1.out HS1.out (Za _));rw[zcA hone,hx0];have HX:=hid hx;obtain⟨r0,r1,r2,r3,rf,rlt⟩:=HX1.out.bx;clear hx hx0 hp
   go_enter Tryz.func58,Tryz.ntmps58
   go_upto_region 1 with fail
   rw[<- HW.out];clear HW;go_wp2;exact Zp Xo rfl HO.out
  ·have hd:decide ((l.length:Int)=1)=false:=Yi;obtain⟨hh,hhe⟩:∃hh,hh=(l.length+1)/2:=⟨_,rfl⟩
   obtain⟨hh1,hh2,hh3⟩:1<=hh/\hh<l.length/\l.length-hh<=hh:=Ya;have hl5:l.length<=500001:=KD;have hhe':=hid hhe;clear hhe;obtain⟨U1,fa,hga⟩:∃U1 fa,zZ n m U (l.take hh)=(U1,fa):=⟨_,_,rfl⟩
   obtain⟨U2,fb,hgb⟩:∃U2 fb,zZ n m U1 (l.drop hh)=(U2,fb):=⟨_,_,rfl⟩
   have t1:(l.take hh).length=hh:=Yy;have t2:(l.drop hh).length=l.length-hh:=Za6;have hBt:zcp D B N (l.take hh):=fun f hf=>HBd.out f (ZT hf)
   have hBdr:zcp D B N (l.drop hh):=fun f hf=>HBd.out f (ZX hf)
   have e1:=zax n m U (l.take hh) Ya Ya;rw[hga]at e1;have e1:U1.length=U.length+(hh-1):=by rw[t1]at e1;exact e1
   have e2:=zax n m U1 (l.drop hh) Ya Ya;rw[hgb]at e2;have e2:U2.length=U1.length+(l.length-hh-1):=by rw[t2]at e2;exact e2
   have hmore:zZ n (m+1) U l=(U2++[zbi (-1) fb fa],zbi 1 fa (zbv (n+U2.length))):=zb6 Ya (by rw[<- hhe'.out];exact hga) (by rw[<- hhe'.out];exact hgb);have ba:=BdF.greatB hD hB n m U (l.take hh) hBt Ya Ya KD;rw[hga]at ba;have bb:=BdF.greatB hD hB n m U1 (l.drop hh) hBdr Ya Ya KD;rw[hgb]at bb;have hUv:n+U2.length<N:=KD;obtain⟨b,off,rfl⟩:∃b off,a=some ⟨b,off,none⟩:=by
    obtain⟨b,off,_,_,_,_,_,h,_⟩:=HR1.out.at'.pick (k:=0) Ya;exact⟨b,off,h⟩
   have HA:=IH.out W1 U (l.take hh) (some ⟨b,off,none⟩) c Ya HB1.out HL1.out (HR1.out.take hh) hBt Ya Ya KD Ya;rw[t1,hga]at HA;have HCA:=hid HA;obtain⟨f,hf⟩:∃f,f=zbi (-1) fb fa:=⟨_,rfl⟩
   obtain⟨R,hR'⟩:∃R,R=zbi 1 fa (zbv (n+U2.length)):=⟨_,rfl⟩
   rw[<- hf,<- hR']at hmore;rw[hmore];obtain⟨HHf,HHR,HBa,HBb,HBdr,HT2⟩:=hd6 hf hR' ba bb hBdr t2;obtain⟨HGb,HE1,HE2⟩:=hd3 hgb e1 e2;clear HA hBt hBdr ba bb hf hR' hmore t1 t2 hga hgb e1 e2
   go_enter Tryz.func58,Tryz.ntmps58
   go_upto_region 1 with fail
   rw[<- HW.out];clear HW
   go_upto_region 4 with fail
   have hq:((l.length:Int)+1)/2=(hh:Int):=by have:=hhe'.out;omega
   simp only[hq];clear hq;have hhc:hh<=c:=Ya;have hhI:(hh:Int)<=(c:Int):=Ya;have hh0:(0:Int)<=(hh:Int):=Ya
   go_wp2_with fail
   refine HCA.out.mono ?_
   rintro e w2 ⟨v2,rfl,hv2,hl2,hs2⟩;obtain⟨aa,an,ac,ab,aan,ann,acn,aad,annd,acd,rfl⟩:=hv2.spell;have al2:=blA w2 (.cells #[.slice aa an ac,.bool ab,.slice aan ann acn,.slice aad annd acd] 53);obtain⟨HXA,HFA,HL2,HS2⟩:=hd4 (zfo.alloc hv2.fp 53) (hl2.fresh al2 (Za _) Yc) (hl2.below al2) (hs2.trans (Stp.of al2 hl2.lt));obtain⟨HX2,HF2,HR2,HB2,HSw2⟩:=hd5 (HX1.out.stp HL1.out HS2.out HF1.out) (HF1.out.stp HS2.out) (HR1.out.stp HL1.out HS2.out) (HB1.out.stp HL1.out HS2.out) (HS1.out.trans HS2.out);clear hv2 hl2 hs2 al2 HCA HX1 HF1 HR1 HB1
   go_upto_region 5 with fail
   generalize w2.alloc (.cells #[.slice aa an ac,.bool ab,.slice aan ann acn,.slice aad annd acd] 53)=Wg at *;have hne:¬ c=hh:=Ya;have HA:=IH.out Wg U1 (l.drop hh) (some ⟨b,off+hh*4,none⟩) (c-hh) Ya HB2.out HL2.out (HR2.out.drop hh) HBdr.out VT VT (by rw[HT2.out,HE1.out];have:=HU.out;omega) VT;rw[HT2.out,HGb.out]at HA;have HCB:=hid HA;have hlI:(hh:Int)<=(l.length:Int):=Ya;have hlN:hh<=l.length:=Ya;clear HA
   go_wp2_with fail
   refine HCB.out.mono ?_
   rintro e w4 ⟨v4,rfl,hv4,hl4,hs4⟩;obtain⟨ba,bn,bc,bb,ban,bnn,bcn,bad,bnd,bcd,rfl⟩:=hv4.spell;have al4:=blA w4 (.cells #[.slice ba bn bc,.bool bb,.slice ban bnn bcn,.slice bad bnd bcd] 53);obtain⟨HXB,HL4,HS4⟩:=hd3 (zfo.alloc hv4.fp 53) (hl4.below al4) (hs4.trans (Stp.of al4 hl4.lt));obtain⟨HXA4,HFA4,HFB4,HX4,HF4,HB4⟩:=hd6 (HXA.out.stp HL2.out HS4.out HFA.out) (HFA.out.stp HS4.out) (hl4.fresh al4 (Za _) Yc) (HX2.out.stp HL2.out HS4.out HF2.out) (HF2.out.stp HS4.out) (HB2.out.stp HL2.out HS4.out);have HSw4:=hid (HSw2.out.trans HS4.out);clear hv4 hl4 hs4 al4 HCB HX2 HF2 HR2 HB2 HXA HFA HSw2
   go_upto_region 6 with fail
   generalize w4.alloc (.cells #[.slice ba bn bc,.bool bb,.slice ban bnn bcn,.slice bad bnd bcd] 53)=Wh at *;have hLh:=HL4.out;have HCe:Hid (∀X,Stp gG Wh X->X.cell? ⟨w2.heap.size,0,none⟩=some (.slice aa an ac)/\X.cell? ⟨w2.heap.size,1,none⟩=some (.bool ab)/\X.cell? ⟨w2.heap.size,2,none⟩=some (.slice aan ann acn)/\X.cell? ⟨w2.heap.size,3,none⟩=some (.slice aad annd acd)/\
     X.cell? ⟨w4.heap.size,0,none⟩=some (.slice ba bn bc)/\X.cell? ⟨w4.heap.size,1,none⟩=some (.bool bb)/\X.cell? ⟨w4.heap.size,2,none⟩=some (.slice ban bnn bcn)/\X.cell? ⟨w4.heap.size,3,none⟩=some (.slice bad bnd bcd)/\
     X.cell? ⟨gL,12,none⟩=some (.func (.func 33) #[] #[.pointer (some ⟨gG,0,none⟩)])):=fun X hs=>
    ⟨(HFA4.out.cell hs).trans HXA4.out.bx.c0, (HFA4.out.cell hs).trans HXA4.out.bx.c1, (HFA4.out.cell hs).trans HXA4.out.bx.c2, (HFA4.out.cell hs).trans HXA4.out.bx.c3,
      (HFB4.out.cell hs).trans HXB.out.bx.c0,(HFB4.out.cell hs).trans HXB.out.bx.c1,(HFB4.out.cell hs).trans HXB.out.bx.c2,(HFB4.out.cell hs).trans HXB.out.bx.c3,by rw[((HB4.out.fre HL4.out).cell hs).trans HB4.out.f12,hfu];rfl⟩
   have HSub:Hid (∀X,Stp gG Wh X->Calls Tryz.prog 91 #[.agg #[.slice ba bn bc,.bool bb,.slice ban bnn bcn,.slice bad bnd bcd],.agg #[.slice aa an ac,.bool ab,.slice aan ann acn,.slice aad annd acd]] X (za2 X f)):=fun X hs=>by
    rw[HHf.out]
    refine zuw (HXB.out.fm.val.stp HL4.out hs) (HXA4.out.fm.val.stp HL4.out hs) HBb.out HBa.out (D:=D) (N:=N) ?_ hN
    have h:=HPP.out;rw[HPE.out]at h;exact h.le (Za _) Ya
   have HUn:Hid (∀X z,LSt X gG n U2->zap X z f->Calls Tryz.prog 33 #[z,.pointer (some ⟨gG,0,none⟩)] X (zmA gG n X (U2++[f]) (zbv (n+U2.length)))):=fun X z hl hz=>zst hl hz hn Ya
   have HAdd:Hid (∀X,Stp gG Wh X->∀z,zap X z (zbv (n+U2.length))->Calls Tryz.prog 60 #[.agg #[.slice aa an ac,.bool ab,.slice aan ann acn,.slice aad annd acd],z] X (za2 X R)):=fun X hs z hz=>by
    rw[HHR.out]
    refine zr9 (HXA4.out.fm.val.stp HL4.out hs) hz HBa.out (BdF.var (D:=D) (B:=1) (N:=N) hD (Za _) Ya) ?_ hN
    have h:=HPP.out;rw[HPE.out]at h;exact h.le (Za _) Ya
   obtain⟨V,hV⟩:∃V,V=zbv (n+U2.length):=⟨_,rfl⟩
   rw[<- hV]at HUn HAdd;have hga:=Zb HFA4.out.lt (Za _);have hgb:=HFB4.out.lt
   refine zal 10 Yb Yb Yb Yb Yd (zfe gG n Wh U2 (U2++[f]) 8 [.val (.agg #[.slice aa an ac,.bool ab,.slice aan ann acn,.slice aad annd acd]),.val (.pointer (some ⟨gL,0,none⟩)),.val (.pointer (some ⟨gL,0,none⟩)),.val (.pointer (some ⟨gL,12,none⟩)),.val (.func (.func 33) #[] #[.pointer (some ⟨gG,0,none⟩)]),.val (.agg #[.slice ba bn bc,.bool bb,.slice ban bnn bcn,.slice bad bnd bcd]),.val (.agg #[.slice aa an ac,.bool ab,.slice aan ann acn,.slice aad annd acd]),.frm f,.frm V,.frm R]) (fun g=>zfe.start YS g) ?_ ?_
   ·intro ops;simp only[Zo,Zw,zc1]
    refine⟨?v0,?_,?_,?_,?_,?v5,?v6,?_,?_,?_,trivial⟩
    case v0|v5|v6=>
     intro d y' X hJ hd hW;have hS:=hJ.st;obtain⟨a0,a1,a2,a3,b0,b1,b2,b3,f12⟩:=HCe.out X hJ.st;have hxa:=Zb hga hJ.st.size;have hxb:=Zb hgb hJ.st.size;exact IU
    ·intro d y' X hJ hd hW;exact IU
    ·exact IW
    ·exact IS
    ·intro d y' X hJ hd hW;have hS:=hJ.st;obtain⟨a0,a1,a2,a3,b0,b1,b2,b3,f12⟩:=HCe.out X hJ.st;have hxa:=Zb hga hJ.st.size;have hxb:=Zb hgb hJ.st.size;exact IT
    ·intro d y' X hJ hd hW;simp only[zaE,Region.binds,ZB,Zn,Zx,Z0,Z6]at hW;have h5:d 5=true:=Ye;have h6:d 6=true:=Ye;have J5:=hJ.all 5 h5;have J6:=hJ.all 6 h6;simp only[GU,Zf,Zc]at J5 J6;simp[ze,Act.put];generalize hg5:y' 5=y5;rw[hg5]at J5;generalize hg6:y' 6=y6;rw[hg6]at J6;clear hg5;obtain rfl:=J5;clear hg6;obtain rfl:=J6;have HJ:=hid hJ;clear hJ hd hW h5 h6;have HCt:=hid (HSub.out X HJ.out.st);exact Ta
    ·intro d y' X hJ hd hW;simp only[zaE,Region.binds,ZB,Zn,Zx,Z0,Z6]at hW;have h4:d 4=true:=Ye;have h7:d 7=true:=Ye;have J4:=hJ.all 4 h4;have J7:=hJ.all 7 h7;simp only[GU,Zf,Zc]at J4 J7;simp[ze,Act.put];generalize hg4:y' 4=y4;rw[hg4]at J4;generalize hg7:y' 7=y7;rw[hg7]at J7;clear hg4;obtain rfl:=J4;clear hg7;have K7:=hid J7;clear J7;obtain⟨HJ,HUnn⟩:=hd2 hJ (hJ.old hd);clear hJ hd hW h4 h7;have HCt:=hid (HUn.out X _ HUnn.out K7.out);exact T6
    ·intro d y' X hJ hd hW;simp only[zaE,Region.binds,ZB,Zn,Zx,Z0,Z6]at hW;have h0:d 0=true:=Ye;have h8:d 8=true:=Ye;have J0:=hJ.all 0 h0;have J8:=hJ.all 8 h8;simp only[GU,Zf,Zc]at J0 J8;simp[ze,Act.put];generalize hg0:y' 0=y0;rw[hg0]at J0;generalize hg8:y' 8=y8;rw[hg8]at J8;clear hg0;obtain rfl:=J0;clear hg8;have K8:=hid J8;clear J8;have HJ:=hid hJ;clear hJ hd hW h0 h8;have HCt:=hid (HAdd.out X HJ.out.st _ K8.out);exact Ta
   ·intro ops d y' X hA hJ;have J9:=hJ.all 9 (hA 9 Yd);simp only[GU,Zf,Zc]at J9;have hS:=hJ.st;obtain⟨a0,a1,a2,a3,b0,b1,b2,b3,f12⟩:=HCe.out X hJ.st;have hxa:=Zb hga hJ.st.size;have hxb:=Zb hgb hJ.st.size;obtain⟨HLn,HSn⟩:=hd2 (hJ.new (hA 8 Yd)) hJ.st;clear hJ hA;simp only[Zo,Zw,ZG,ZO];simp[ze,Act.put];generalize y' 9=y9 at J9⊢;obtain⟨ra,rn,rc,rb,ran,rnn,rcn,rad,rnd,rcd,rfl⟩:=J9.spell;obtain⟨HX9,HF9⟩:=hd2 (HX4.out.stp HL4.out HSn.out HF4.out) (HF4.out.stp HSn.out);have HO:=hid (zmA.ret (w:=w) J9 HLn.out HX9.out.al HF9.out (HSw4.out.trans HSn.out) (Za _));obtain⟨r0,r1,r2,r3,rf,rlt⟩:=HX9.out.bx;clear J9;go_wp2;exact Zp Xo rfl HO.out
theorem zdG(h:LSt w gG n U)(hg:w.grownBy w' v.ownBlock)(hf:∀b,v.ownBlock=some b->Fre gG w b):ub w' gG=ub w gG/\w'.heap[gG]? =w.heap[gG]? :=by
 have e:w'.heap[gG]? =w.heap[gG]? :=hg.block gG h.lt (fun e=>(hf gG e.symm).ne rfl);exact⟨by unfold ub;rw[ZS (a:=⟨gG,1,none⟩) e],e⟩
theorem LSt.grown(h:LSt w gG n U)(hg:w.grownBy w' v.ownBlock)(hf:∀b,v.ownBlock=some b->Fre gG w b)(ha:zhj zco w v):LSt w' gG n U:=by
 obtain⟨_,he⟩:=zdG h hg hf;obtain⟨g0,⟨a,c,h1,ho⟩,g2,g3,fz,lt⟩:=h;have k:∀o,w'.cell? ⟨gG,o,none⟩=w.cell? ⟨gG,o,none⟩:=fun o=>ZS he
 have hne:∀g,(Value.slice a U.length c).ownBlock=some g->w'.heap[g]? =w.heap[g]? :=fun g e=>hg.block g (ho.lt e).2 (fun e2=>(hf g e2.symm).nu (by unfold ub;rw[h1];exact e))
 refine⟨(k 0).trans g0,⟨a,c,(k 1).trans h1,⟨?_,?_⟩⟩,(k 2).trans g2,fun o ho=>(k o).trans (g3 o ho),fun o=>(ZaT he).trans (fz o),Zb lt hg.size⟩
 ·obtain⟨xs,hx,hel⟩:=ho.ex
  refine⟨xs,⟨hx.1,?_⟩,fun j x hj=>?_⟩
  ·rcases hx.2 with k|⟨g,cap,cur,e1,k1,k2,k3⟩
   ·exact .inl k
   ·exact .inr ⟨g,cap,cur,e1,k1,(hne g (by rw[e1];rfl)).trans k2,k3⟩
  ·obtain⟨p0,p1,p2,p3,h0,h1',h2,h3,h4⟩:=hel j x hj;exact⟨p0,p1,p2,p3,h0,h1',h2,h3,zaX.grown h4 hg ha⟩
 ·intro g e o x hx;have e2:w'.cell? ⟨g,o,none⟩=w.cell? ⟨g,o,none⟩:=ZS (hne g e);rw[e2]at hx;exact ho.al g e o x hx
theorem Stp.grown{w0:World}(hs:Stp gG w0 w)(h:LSt w gG n U)(hg:w.grownBy w' v.ownBlock)(hf:∀b,v.ownBlock=some b->Fre gG w b)(hb:∀b,v.ownBlock=some b->w0.heap.size<=b):Stp gG w0 w':=by
 obtain⟨e,_⟩:=zdG h hg hf
 refine⟨hg.os.trans hs.os,hg.tape.trans hs.tape,hg.output.trans hs.output,Zi hs.size hg.size,fun k hk h1 h2=>?_,by rw[e];exact hs.next⟩
 exact(hg.block k (Zb hk hs.size) (fun e=>by have:=hb k e.symm;omega)).trans (hs.block k hk h1 h2)
structure zeV (gG n:Nat) (w wr:World) (v:Value) (L U:List zl):Prop where
 own:zgG gG wr w.heap.size v L
 un:LSt wr gG n U
 st:Stp gG w wr
theorem zeV.start(h:LSt w gG n U):zeV gG n w w (.slice none 0 0) [] U:=⟨zgG.nil _ _ _,h,Stp.refl _ _⟩
theorem zeV.stp(h:zeV gG n w wr v L U)(hs:Stp gG wr w')(hU:LSt w' gG n U'):zeV gG n w w' v L U':=⟨h.own.stp h.un hs,hU,h.st.trans hs⟩
theorem zeV.below(h:zeV gG n w wr v L U)(hb:Below wr.heap.size wr w'):zeV gG n w w' v L U:=h.stp (Stp.of hb h.un.lt) (h.un.below hb)
theorem zeV.app(h:zeV gG n w wr v L U)(ho:zoQ w' w.heap.size v' (L++[f]))(hg:wr.grownBy w' v.ownBlock)(hn:zi7 wr v v'):zeV gG n w w' v' (L++[f]) U:=by
 obtain⟨e,_⟩:=zdG h.un hg h.own.fr;have hL:=h.un.grown hg h.own.fr h.own.own.al
 refine⟨⟨ho,fun b hb=>?_⟩,hL,h.st.grown h.un hg h.own.fr (fun b hb=>(h.own.own.lt hb).1)⟩
 rcases hn with e2|⟨g,e2,hge⟩
 ·have hf:=h.own.fr b (e2.symm.trans hb);exact⟨Zb hf.lt hg.size,hf.ne,by rw[e];exact hf.nu⟩
 ·rw[e2]at hb;cases hb
  refine⟨(ho.lt e2).2,by have:=h.un.lt;omega,fun e3=>?_⟩
  rw[e]at e3;have:=h.un.ub_ge e3;omega
theorem zeV.rebase(h:zeV gG n W wr v L U)(hs:Stp gG w W)(hb:w.heap.size<=W.heap.size):zeV gG n w wr v L U:=⟨⟨h.own.own.mono hb,h.own.fr⟩,h.un,hs.trans h.st⟩
def zqn(gG n:Nat)(w:World)(U L:List zl)(e:Ending)(w':World):Prop:=∃a c,e=.returned (.slice a L.length c)/\zeV gG n w w' (.slice a L.length c) L U
theorem zeV.ret{c:Nat}(h:zeV gG n w wr (.slice a m c) L U)(hm:L.length=m):zqn gG n w U L (.returned (.slice a m c)) wr:=by
 subst hm;exact⟨a,c,rfl,h⟩
theorem zl9.un(h:zl9 w L e w')(hL:LSt w gG n U):zqn gG n w U L e w':=by
 obtain⟨a,c,he,ho,hb⟩:=h;exact⟨a,c,he,zgG.of ho hL hb,hL.below hb,Stp.of hb hL.lt⟩
theorem ze0(C n:Nat)(win:List (List Int)):(zcH C n win).length=C*win.length:=by
 unfold zcH
 induction C with
 | zero=>simp
 | succ C ih=>rw[Zab,List.flatMap_append,ZE,ih,Zac];simp
theorem zo7{C n k i:Nat}{win:List (List Int)}(hk:k<C)(hi:i<win.length):(zcH C n win)[k*win.length+i]? =some (zas (win.getD i []) (k*n) n):=by
 induction C with
 | zero=>omega
 | succ C ih=>
  have e:zcH (C+1) n win=zcH C n win++(List.range win.length).map fun i=>zas (win.getD i []) (C*n) n:=by
   unfold zcH;rw[Zab,List.flatMap_append];simp
  have hl:=ze0 C n win;rw[e]
  by_cases h:k<C
  ·have h2:k*win.length+i<C*win.length:=by
    have:=Zl win.length (show k+1<=C from h);rw[Zac]at this;omega
   rw[Zz (by rw[hl];exact h2)];exact ih h
  ·obtain rfl:k=C:=Ya;rw[ZI (by rw[hl];omega),hl,ZaO];simp[hi]
theorem zh0{β:Type}(f:List zl->β->List zl×zl){l:List β}{b:β}(h:l[m]? =some b)(U:List zl):
  z7 f (l.take (m+1)) U=((f (z7 f (l.take m) U).1 b).1,(z7 f (l.take m) U).2++[(f (z7 f (l.take m) U).1 b).2]):=by
 have hm:=(Zr.1 h).1;rw[Zap,h];exact zh2 f b _ _
theorem zfK{β:Type}(f:List zl->β->List zl×zl)(c:Nat):∀(l:List β) (U:List zl),(∀U b,b∈l->(f U b).1.length=U.length+c)->(z7 f l U).1.length=U.length+l.length*c
 | [],U,_=>by simp[z7]
 | b::r,U,h=>by
  show(z7 f r (f U b).1).1.length=_
  rw[zfK f c r _ (fun U x hx=>h U x (ZaP _ hx)),h U b Zal,ZH,Zac];omega
theorem zhV{β:Type}(h:β->zl):∀(l:List β) (U:List zl),z7 (fun U b=>(U,h b)) l U=(U,l.map h)
 | [],_=>rfl
 | b::r,U=>by
  show((z7 (fun U b=>(U,h b)) r U).1,h b::(z7 (fun U b=>(U,h b)) r U).2)=_
  rw[zhV h r U];rfl
theorem zlM{x:List zl}{i:Int}(h:ix[j]? =some i):zba (ix.take (j+1)) x=zba (ix.take j) x++[x.getD i.toNat zcB]:=by
 rw[Zap,h];simp[zba]
theorem zsa{x:List zl}{G:List zl->List Int->List zl×zl}(hL:zaY w gL S)(hG:LSt w gG n0 U)(h3:x.length=S.nx)(h4:sh.length=S.nS)
 (hX:zee gG w S.ax x)(hS:zah w F S.aS sh)(hkh:S.kh=(KH:Int))(hkw:S.kw=(KW:Int))(hn:n=KH*KW)(hC:sh[0]? =some (C:Int))
 (hwin:(zB sh S.kh S.kw S.st S.pd).1=win)(hT:T=win.length)(hgs:gs=zcH C n win)(hlen:∀ix∈win,ix.length=C*n)(hix:∀ix∈win,∀i∈ix,0<=i/\i<x.length)
 (hNx:S.nx<=1000000)(hn1:1<=n)(hn2:n<=1000000)(hT2:T<=1000000)(hCn:C*n<=1000000)(hCT:C*T<=1000000)
 (hF:∀(X:World) (m:Nat) (a:Option Addr) (c:Nat) (g:List Int),gs[m]? =some g->m<C*T->g.length=n->LSt X gG n0 (z7 G (gs.take m) U).1->zaY X gL S->zee gG X a (zba g x)->n<=c->
   Calls Tryz.prog 58 #[.pointer (some ⟨gL,0,none⟩),.slice a n c] X (zmA gG n0 X (G (z7 G (gs.take m) U).1 g).1 (G (z7 G (gs.take m) U).1 g).2)):
  Calls Tryz.prog 57 #[.pointer (some ⟨gL,0,none⟩),.func (.func 58) #[.pointer (some ⟨gL,0,none⟩)] #[]] w (zqn gG n0 w (z7 G gs U).1 (z7 G gs U).2):=by
 obtain⟨HSB,HG,HX,H3,HT,HLen⟩:=hd6 hL hG hX h3 hT hlen;obtain⟨HIx,HCT,HCn,HGs,HFn⟩:=hd5 hix hCT hCn hgs hF;have hsl:0<sh.length:=(Zr.1 hC).1;obtain⟨bS,oS,d0,haS,sc,hd0,_,hbS,_,_,_⟩:=hS.pick2 hsl;rw[hC]at hd0;cases hd0;have hC2:C<=1000000:=by
  have:=ZaE C (show 0<n from Ya);omega
 have HWn:=zii hL h4 hS;rw[hwin]at HWn;have HWn:=hid HWn;have m1:IntKind.i64.wrap ((KH:Int)*(KW:Int))=(n:Int):=Yu;obtain⟨Hkh,Hkw,HaS⟩:=hd3 hkh hkw haS;have hns:0<S.nS:=by rw[<- h4];exact hsl
 clear hX h3 h4 hS hwin hT hlen hix hCT hCn hkh hkw haS hn hC hL hG hgs hF
 go_enter Tryz.func57,Tryz.ntmps57
 go_upto_region 2 with fail
 go_wp2_with fail
 refine HWn.out.mono ?_
 rintro e Wx ⟨aw,cw,rfl,hI,hb⟩;rw[<- HT.out];obtain⟨HSx,HBx⟩:=hd2 (HSB.out.below hb) hb;have sc:=(hb.cell (p:=⟨bS,oS,none⟩) hbS).trans sc;have hbS2:=Zb hbS hb.size;have HI:=hid (hI.mono (fun b hb1 hb2=>HG.out.fresh hb hb2 hb1));clear hI hb HWn HSB
 go_upto_region 3 with fail
 have f3:=HSx.out.f3;have f4:=HSx.out.f4;have slt:=HSx.out.lt;rw[Hkh.out]at f3;rw[Hkw.out]at f4
 go_quiet (fail)
 have hdn:Below Wx.heap.size Wx (Wx.drewN nq):=below_drewN (Ze _ _) nq;generalize Wx.drewN nq=Wy at *;obtain⟨HSy,HIy⟩:=hd2 (HSx.out.below hdn) (HI.out.stp (Stp.of hdn (HG.out.below HBx.out).lt));have HBy:=htr HBx hdn;have sc:=(hdn.cell (p:=⟨bS,oS,none⟩) hbS2).trans sc;have hbS3:=Zb hbS2 hdn.size;obtain⟨HGy,HXy⟩:=hd2 (zeV.start (HG.out.below HBy.out)) (HX.out.stp HG.out (Stp.of HBy.out HG.out.lt));clear f3 f4 slt hdn HSx HI HBx hbS2;have f9:=HSy.out.f9;have slt:=HSy.out.lt;rw[HaS.out]at f9;go_wp2;clear f9 sc slt hbS3 hbS
 go_loopw [5,33] (fun v i wr=>∃(k m:Nat) (a:Option Addr) (c:Nat),k<=C/\Hid (m=k*T)/\v=.slice a m c/\i=.int .i64 (k:Int)/\Hid (zeV gG n0 Wy wr (.slice a m c) (z7 G (gs.take m) U).2 (z7 G (gs.take m) U).1)) (fun _ i _=>C-(intOf i).toNat)
 case atStart=>exact⟨0,0,none,0,Zs _,XU,rfl,rfl,Vb⟩
 case round=>
  exact IR
theorem zsc{x:List zl}{G:List zl->List Int->List zl×zl}(hL:zaY w gL S)(hG:LSt w gG n0 U)(h3:x.length=S.nx)(h4:sh.length=S.nS)
 (hX:zee gG w S.ax x)(hS:zah w F S.aS sh)(hkh:S.kh=(KH:Int))(hkw:S.kw=(KW:Int))(hn:n=KH*KW)(hC:sh[0]? =some (C:Int))
 (hwin:(zB sh S.kh S.kw S.st S.pd).1=win)(hT:T=win.length)(hgs:gs=zcH C n win)(hlen:∀ix∈win,ix.length=C*n)(hix:∀ix∈win,∀i∈ix,0<=i/\i<x.length)
 (hNx:S.nx<=1000000)(hn1:1<=n)(hn2:n<=1000000)(hT2:T<=1000000)(hCn:C*n<=1000000)(hCT:C*T<=1000000)
 (hF:∀(X:World) (m:Nat) (a:Option Addr) (c:Nat) (g:List Int),gs[m]? =some g->m<C*T->g.length=n->LSt X gG n0 (z7 G (gs.take m) U).1->zaY X gL S->zee gG X a (zba g x)->n<=c->
   Calls Tryz.prog 59 #[.slice a n c] X (zmA gG n0 X (G (z7 G (gs.take m) U).1 g).1 (G (z7 G (gs.take m) U).1 g).2)):
  Calls Tryz.prog 57 #[.pointer (some ⟨gL,0,none⟩),.func (.func 59) #[] #[]] w (zqn gG n0 w (z7 G gs U).1 (z7 G gs U).2):=by
 obtain⟨HSB,HG,HX,H3,HT,HLen⟩:=hd6 hL hG hX h3 hT hlen;obtain⟨HIx,HCT,HCn,HGs,HFn⟩:=hd5 hix hCT hCn hgs hF;have hsl:0<sh.length:=(Zr.1 hC).1;obtain⟨bS,oS,d0,haS,sc,hd0,_,hbS,_,_,_⟩:=hS.pick2 hsl;rw[hC]at hd0;cases hd0;have hC2:C<=1000000:=by
  have:=ZaE C (show 0<n from Ya);omega
 have HWn:=zii hL h4 hS;rw[hwin]at HWn;have HWn:=hid HWn;have m1:IntKind.i64.wrap ((KH:Int)*(KW:Int))=(n:Int):=Yu;obtain⟨Hkh,Hkw,HaS⟩:=hd3 hkh hkw haS;have hns:0<S.nS:=by rw[<- h4];exact hsl
 clear hX h3 h4 hS hwin hT hlen hix hCT hCn hkh hkw haS hn hC hL hG hgs hF
 go_enter Tryz.func57,Tryz.ntmps57
 go_upto_region 2 with fail
 go_wp2_with fail
 refine HWn.out.mono ?_
 rintro e Wx ⟨aw,cw,rfl,hI,hb⟩;rw[<- HT.out];obtain⟨HSx,HBx⟩:=hd2 (HSB.out.below hb) hb;have sc:=(hb.cell (p:=⟨bS,oS,none⟩) hbS).trans sc;have hbS2:=Zb hbS hb.size;have HI:=hid (hI.mono (fun b hb1 hb2=>HG.out.fresh hb hb2 hb1));clear hI hb HWn HSB
 go_upto_region 3 with fail
 have f3:=HSx.out.f3;have f4:=HSx.out.f4;have slt:=HSx.out.lt;rw[Hkh.out]at f3;rw[Hkw.out]at f4
 go_quiet (fail)
 have hdn:Below Wx.heap.size Wx (Wx.drewN nq):=below_drewN (Ze _ _) nq;generalize Wx.drewN nq=Wy at *;obtain⟨HSy,HIy⟩:=hd2 (HSx.out.below hdn) (HI.out.stp (Stp.of hdn (HG.out.below HBx.out).lt));have HBy:=htr HBx hdn;have sc:=(hdn.cell (p:=⟨bS,oS,none⟩) hbS2).trans sc;have hbS3:=Zb hbS2 hdn.size;obtain⟨HGy,HXy⟩:=hd2 (zeV.start (HG.out.below HBy.out)) (HX.out.stp HG.out (Stp.of HBy.out HG.out.lt));clear f3 f4 slt hdn HSx HI HBx hbS2;have f9:=HSy.out.f9;have slt:=HSy.out.lt;rw[HaS.out]at f9;go_wp2;clear f9 sc slt hbS3 hbS
 go_loopw [5,33] (fun v i wr=>∃(k m:Nat) (a:Option Addr) (c:Nat),k<=C/\Hid (m=k*T)/\v=.slice a m c/\i=.int .i64 (k:Int)/\Hid (zeV gG n0 Wy wr (.slice a m c) (z7 G (gs.take m) U).2 (z7 G (gs.take m) U).1)) (fun _ i _=>C-(intOf i).toNat)
 case atStart=>exact⟨0,0,none,0,Zs _,XU,rfl,rfl,Vb⟩
 case round=>
  exact IR
theorem ztZ{R:Ending->World->Prop}(hL:zaY w gL S)(hk:S.kd=1)(h:Calls Tryz.prog 55 #[.pointer (some ⟨gL,0,none⟩)] w R)(hr:∀e w',R e w'->∃a n c,e=.returned (.slice a n c)):
  Calls Tryz.prog 35 #[.pointer (some ⟨gL,0,none⟩)] w R:=UO
theorem ztd{R:Ending->World->Prop}(hL:zaY w gL S)(hk:S.kd=2)(h:Calls Tryz.prog 56 #[.pointer (some ⟨gL,0,none⟩)] w R)(hr:∀e w',R e w'->∃a n c,e=.returned (.slice a n c)):
  Calls Tryz.prog 35 #[.pointer (some ⟨gL,0,none⟩)] w R:=UO
theorem zty{R:Ending->World->Prop}(hL:zaY w gL S)(hk:S.kd=3)(h:Calls Tryz.prog 57 #[.pointer (some ⟨gL,0,none⟩),.func (.func 58) #[.pointer (some ⟨gL,0,none⟩)] #[]] w R)(hr:∀e w',R e w'->∃a n c,e=.returned (.slice a n c)):
  Calls Tryz.prog 35 #[.pointer (some ⟨gL,0,none⟩)] w R:=UO
theorem ztD{R:Ending->World->Prop}(hL:zaY w gL S)(hk:S.kd=4)(h:Calls Tryz.prog 57 #[.pointer (some ⟨gL,0,none⟩),.func (.func 59) #[] #[]] w R)(hr:∀e w',R e w'->∃a n c,e=.returned (.slice a n c)):
  Calls Tryz.prog 35 #[.pointer (some ⟨gL,0,none⟩)] w R:=UO
theorem ztS(hL:zaY w gL S)(hk:S.kd=6):
  Calls Tryz.prog 35 #[.pointer (some ⟨gL,0,none⟩)] w fun e w'=>e=.returned (.slice S.ax S.nx S.cx)/\Below w.heap.size w w':=by
 have f0:=hL.f0;have f10:=hL.f10;have glt:=hL.lt;rw[hk]at f0;clear hL hk
 go_enter Tryz.func35,Tryz.ntmps35
 go_wp2;exact Zp (v:=.slice S.ax S.nx S.cx) XY rfl ⟨rfl,Ze _ _⟩
theorem ztX{x:List zl}(hL:zaY w gL S)(hk:S.kd=5)(hfu:S.fu=zlG gG)(hG:LSt w gG n U)(hX:zee gG w S.ax x)(h3:x.length=S.nx)(hNx:S.nx<=500000)(hn:n<=1000000)(hU:U.length+S.nx<=1000000):
  Calls Tryz.prog 35 #[.pointer (some ⟨gL,0,none⟩)] w (zqn gG n w (z7 (zcr n) x U).1 (z7 (zcr n) x U).2):=by
 obtain⟨HSB,HG,HX,H3,HK⟩:=hd5 hL hG hX h3 hk;have f0:=hL.f0;have f10:=hL.f10;have glt:=hL.lt;rw[hk]at f0;clear hL hk hG hX h3
 go_enter Tryz.func35,Tryz.ntmps35
 go_wp2;clear f0 f10 glt
 go_loopw [3,38] (fun v i wr=>∃(k:Nat) (a:Option Addr) (c:Nat),k<=S.nx/\v=.slice a k c/\i=.int .i64 (k:Int)/\Hid (zeV gG n w wr (.slice a k c) (z7 (zcr n) (x.take k) U).2 (z7 (zcr n) (x.take k) U).1)) (fun _ i _=>S.nx-(intOf i).toNat)
 case atStart=>exact⟨0,none,0,Zs _,rfl,rfl,by unfold Hid;simpa [z7]using zeV.start HG.out⟩
 case round=>
  obtain⟨k,b0,k0,hk,rfl,rfl,HOut⟩:=hrel
  by_cases hlk:k<S.nx
  ·have HXr:=HX.out.stp HG.out HOut.out.st;obtain⟨bx,ox,y,q0,q1,q2,q3,hax,hbx,hyy,yc0,yc1,yc2,yc3,hyv⟩:=HXr.at'.pick (k:=k) KQ;obtain⟨ya,yn,yc,yb,yan,ynn,ycn,yad,ynd,ycd,rfl,rfl,rfl,rfl⟩:=hyv.spell;have HStep:=hid (zh0 (zcr n) hyy U);have hal:=blA wr (.cells #[.slice ya yn yc,.bool yb,.slice yan ynn ycn,.slice yad ynd ycd] 53);have HYb:=hid (zbl.alloc wr (.slice ya yn yc) (.bool yb) (.slice yan ynn ycn) (.slice yad ynd ycd) 53);have HYv:=hid (zaX.below hyv hal).val;obtain⟨HGj,HFy,HSj⟩:=hd3 (HOut.out.below hal) (HOut.out.un.fresh hal (Za _) Yc) ((HSB.out.stp HG.out HOut.out.st).below hal);have HLl:Hid ((z7 (zcr n) (x.take k) U).2.length=k):=by unfold Hid;rw[zbI,Z8,H3.out];omega
   have hUk:(z7 (zcr n) (x.take k) U).1.length=U.length+k:=by
    rw[zfK (zcr n) 1 _ _ (fun U b _=>by simp[zcr]),Z8,H3.out];omega
   have hax':=hid hax;rw[hax];obtain⟨Uk,hUk2⟩:∃Uk,Uk=(z7 (zcr n) (x.take k) U).1:=⟨_,rfl⟩
   obtain⟨Lk,hLk2⟩:∃Lk,Lk=(z7 (zcr n) (x.take k) U).2:=⟨_,rfl⟩
   rw[<- hUk2]at HGj HStep hUk;rw[<- hLk2]at HGj HStep HLl;have HUk:=hid hUk;clear hyy hyv hal HOut HXr hUk2 hLk2 hUk
   go_upto_region 15 with fail
   generalize wr.alloc (.cells #[.slice ya yn yc,.bool yb,.slice yan ynn ycn,.slice yad ynd ycd] 53)=wj at *;clear yc0 yc1 yc2 yc3;have hLj:=HGj.out.un;have HCe:Hid (∀X,Stp gG wj X->X.cell? ⟨wr.heap.size,0,none⟩=some (.slice ya yn yc)/\X.cell? ⟨wr.heap.size,1,none⟩=some (.bool yb)/\X.cell? ⟨wr.heap.size,2,none⟩=some (.slice yan ynn ycn)/\X.cell? ⟨wr.heap.size,3,none⟩=some (.slice yad ynd ycd)/\
     X.cell? ⟨gL,12,none⟩=some (.func (.func 33) #[] #[.pointer (some ⟨gG,0,none⟩)])):=fun X hs=>
    ⟨(HFy.out.cell hs).trans HYb.out.c0,(HFy.out.cell hs).trans HYb.out.c1,(HFy.out.cell hs).trans HYb.out.c2,(HFy.out.cell hs).trans HYb.out.c3,by rw[((HSj.out.fre HGj.out.un).cell hs).trans HSj.out.f12,hfu];rfl⟩
   have HUn:Hid (∀X,Stp gG wj X->LSt X gG n Uk->Calls Tryz.prog 33 #[.agg #[.slice ya yn yc,.bool yb,.slice yan ynn ycn,.slice yad ynd ycd],.pointer (some ⟨gG,0,none⟩)] X (zmA gG n X (Uk++[y]) (zbv (n+Uk.length)))):=fun X hs hl=>zst hl (HYv.out.stp HGj.out.un hs) hn (by have:=HUk.out;omega)
   obtain⟨V,hV⟩:∃V,V=zbv (n+Uk.length):=⟨_,rfl⟩
   have HStep2:Hid (z7 (zcr n) (x.take (k+1)) U=(Uk++[y],Lk++[V])):=by
    rw[HStep.out,hV];rfl
   rw[<- hV]at HUn;have hgy:=HFy.out.lt;have HGe:=hid HGj.out.st.size;clear hV HStep
   refine zal 8 Yb Yb Yb Yb Yd (zfe gG n wj Uk (Uk++[y]) 6 [.val (.slice b0 k k0),.val (.pointer (some ⟨gL,0,none⟩)),.val (.pointer (some ⟨gL,0,none⟩)),.val (.pointer (some ⟨gL,12,none⟩)),.val (.func (.func 33) #[] #[.pointer (some ⟨gG,0,none⟩)]),.val (.agg #[.slice ya yn yc,.bool yb,.slice yan ynn ycn,.slice yad ynd ycd]),.frm V,.onf V]) (fun g=>zfe.start YS g) ?_ ?_
   ·intro ops;simp only[Zo,Zw,zc1]
    refine⟨?v0,?v1,?_,?_,?_,?_,?_,?_,trivial⟩
    case v0|v1=>
     intro d y' X hJ hd hW;exact IU
    ·exact IW
    ·exact IS
    ·intro d y' X hJ hd hW;obtain⟨a0,a1,a2,a3,f12⟩:=HCe.out X hJ.st;have hxy:=Zb hgy hJ.st.size;exact IT
    ·intro d y' X hJ hd hW;obtain⟨a0,a1,a2,a3,f12⟩:=HCe.out X hJ.st;have hxy:=Zb hgy hJ.st.size;exact IU
    ·intro d y' X hJ hd hW;simp only[zaE,Region.binds,ZB,Zn,Zx,Z0,Z6]at hW;have h4:d 4=true:=Ye;have h5:d 5=true:=Ye;have J4:=hJ.all 4 h4;have J5:=hJ.all 5 h5;simp only[GU,Zf,Zc]at J4 J5;simp[ze,Act.put];generalize hg4:y' 4=y4;rw[hg4]at J4;generalize hg5:y' 5=y5;rw[hg5]at J5;clear hg4;obtain rfl:=J4;clear hg5;obtain rfl:=J5;obtain⟨HJ,HUnn⟩:=hd2 hJ (hJ.old hd);clear hJ hd hW h4 h5;have HCt:=hid (HUn.out X HJ.out.st HUnn.out);exact T6
    ·intro d y' X hJ hd hW;simp only[zaE,Region.binds,ZB,Zn,Zx,Z0,Z6]at hW;have h6:d 6=true:=Ye;have J6:=hJ.all 6 h6;simp only[GU,Zf,Zc]at J6;simp[ze,Act.put];generalize hg6:y' 6=y6;rw[hg6]at J6;clear hg6;have K6:=hid J6;clear J6;have HJ:=hid hJ;clear hJ hd hW h6;obtain⟨xa,xn,xc,xb,xan,xnn,xcn,xad,xnd,xcd,rfl⟩:=K6.out.spell;obtain⟨HRow,HBa⟩:=hd2 (zfp.form K6.out.fp 53) ((Ze X.heap.size X).alloc (Za _) (.cells #[.slice xa xn xc,.bool xb,.slice xan xnn xcn,.slice xad xnd xcd] 53));have HFr:=hid (HJ.out.un.fresh HBa.out (Za _) Yc);clear K6;exact EB
   ·intro ops d y' X hA hJ;have J0:=hJ.all 0 (hA 0 Yd);have J7:=hJ.all 7 (hA 7 Yd);simp only[GU,Zf,Zc]at J0 J7;obtain⟨a0,a1,a2,a3,f12⟩:=HCe.out X hJ.st;have hxy:=Zb hgy hJ.st.size;obtain⟨HLn,HSn⟩:=hd2 (hJ.new (hA 6 Yd)) hJ.st;clear hJ hA;simp only[Zo,Zw,ZG,ZO];simp[ze,Act.put];generalize y' 0=y0 at J0⊢;obtain rfl:=J0;generalize y' 7=y7 at J7⊢;have HRow:=hid J7.1;clear J7;obtain⟨HGX,HGe2⟩:=hd2 (HGj.out.stp HSn.out HLn.out) (Zi HGe.out HSn.out.size)
    go_wp2_with (at_builtin;refine apF rfl (.tmp 42) (.tmp 49) rfl w.heap.size (.slice b0 k k0) k Lk HLl.out rfl HGX.out.own.own _ V HRow.out rfl Ya HGe2.out ?_;intro b3 k3 w3 hown hk3 hg hbe hnx;have HOut3:=hid (show zeV gG n w w3 (.slice b3 (k+1) k3) (z7 (zcr n) (x.take (k+1)) U).2 (z7 (zcr n) (x.take (k+1)) U).1 from by rw[HStep2.out];exact HGX.out.app hown hg hnx);clear hown hg hbe hnx)
    exact Ik
  ·obtain rfl:k=S.nx:=Ya;have HO:=HOut.out;rw[show x.take S.nx=x from ZM (by rw[H3.out];exact Za _)]at HO;have HO:=hid HO;have hfl:(z7 (zcr n) x U).2.length=S.nx:=by rw[zbI,H3.out]
   clear HOut;go_wp2;exact Zp (v:=.slice b0 S.nx k0) XY rfl (HO.out.ret hfl)
def zmC(x y:List zl)(k:Nat):List zl:=(List.range k).map fun i=>zbi 1 (x.getD i zcB) (y.getD i zcB)
theorem zol(x y:List zl)(k:Nat):zmC x y (k+1)=zmC x y k++[zbi 1 (x.getD k zcB) (y.getD k zcB)]:=by simp[zmC,Zab]
theorem ziI(x y:List zl)(k:Nat):(zmC x y k).length=k:=by simp[zmC]
theorem ztr{bT oT nf cf fr1:Nat}{af:Option Addr}{x y:List zl}(hL:zaY w gL S)(hk:S.kd=7)(hfr:S.fr+1=(fr1:Int))(haT:S.aT=some ⟨bT,oT,none⟩)(hfl:fr1<S.nT)(hbT:bT<w.heap.size)
 (hc:w.cell? ⟨bT,oT+fr1,none⟩=some (.slice af nf cf))(hG:LSt w gG n U)(hX:zee gG w S.ax x)(h3:x.length=S.nx)(hY:zee gG w af y)(hyl:y.length=nf)(hxy:nf=S.nx)(hNx:S.nx<=500000)(hnT:S.nT<=1000000)
 (bx:zcp D B N x)(by':zcp D B N y)(hD:0<D)(hP:Pay D (B+B))(hN:N<=500000):
  Calls Tryz.prog 35 #[.pointer (some ⟨gL,0,none⟩)] w (zqn gG n w U (zmC x y S.nx)):=by
 obtain⟨PP,hPE,hPP⟩:∃PP:Prop,PP=Pay D (B+B)/\PP:=⟨_,rfl,hP⟩
 obtain⟨HPE,HPP,HSB,HG,HX,HY⟩:=hd6 hPE hPP hL hG hX hY;obtain⟨H3,HYl,HBx,HBy⟩:=hd4 h3 hyl bx by'
 have f0:=hL.f0;have f1:=hL.f1;have f11:=hL.f11;have glt:=hL.lt;subst hxy;rw[hk]at f0;rw[haT]at f11;have m1:IntKind.i64.wrap (S.fr+1)=(fr1:Int):=by rw[hfr];exact IntWalk.i64_in _ Ya
 have hfr2:(fr1:Int)<(S.nT:Int):=Ya;clear hL hk hG hX h3 hY hyl bx by' hP hPE hPP haT hfr
 go_enter Tryz.func35,Tryz.ntmps35
 go_upto_region 19 with fail
 go_quiet (fail)
 have hdn:Below w.heap.size w (w.drewN nq):=below_drewN (Ze _ _) nq;generalize w.drewN nq=Wy at *;obtain⟨HBd,HSy,HGy,HSt⟩:=hd4 hdn (HSB.out.below hdn) (HG.out.below hdn) (Stp.of hdn HG.out.lt);obtain⟨HXy,HYy⟩:=hd2 (HX.out.stp HG.out HSt.out) (HY.out.stp HG.out HSt.out);clear hdn f0 f1 f11 glt m1 HX HY HSB hc;go_wp2
 go_loopw [3,68] (fun v i wr=>∃(k:Nat) (a:Option Addr) (c:Nat),k<=S.nx/\v=.slice a k c/\i=.int .i64 (k:Int)/\Hid (zeV gG n Wy wr (.slice a k c) (zmC x y k) U)) (fun _ i _=>S.nx-(intOf i).toNat)
 case atStart=>exact⟨0,none,0,Zs _,rfl,rfl,by unfold Hid;simpa [zmC]using zeV.start HGy.out⟩
 case round=>
  obtain⟨k,b0,k0,hk,rfl,rfl,HOut⟩:=hrel
  by_cases hlk:k<S.nx
  ·have HXr:=HXy.out.stp HGy.out HOut.out.st;have HYr:=HYy.out.stp HGy.out HOut.out.st;obtain⟨by1,oy,y1,q0,q1,q2,q3,hay,hby,hyy,yc0,yc1,yc2,yc3,hyv⟩:=HYr.at'.pick (k:=k) (by rw[HYl.out];exact hlk);obtain⟨ya,yn,yc,yb,yan,ynn,ycn,yad,ynd,ycd,rfl,rfl,rfl,rfl⟩:=hyv.spell;obtain⟨bx,ox,x1,r0,r1,r2,r3,hax,hbx,hxx,xc0,xc1,xc2,xc3,hxv⟩:=HXr.at'.pick (k:=k) KQ;obtain⟨xa,xn,xc,xb,xan,xnn,xcn,xad,xnd,xcd,rfl,rfl,rfl,rfl⟩:=hxv.spell;have hxk:x.getD k zcB=x1:=by rw[Zd,hxx];rfl
   have hyk:y.getD k zcB=y1:=by rw[Zd,hyy];rfl
   have HStep:Hid _:=zol x y k;rw[hxk,hyk]at HStep;have HFx:=hid (HXr.fr.resolve_left (fun e=>by rw[e]at hxx;cases hxx) _ hax);have hal:=blA wr (.cells #[.slice ya yn yc,.bool yb,.slice yan ynn ycn,.slice yad ynd ycd] 53);have HYb:=hid (zbl.alloc wr (.slice ya yn yc) (.bool yb) (.slice yan ynn ycn) (.slice yad ynd ycd) 53);have HYv:=hid (zaX.below hyv hal).val;have HXv:=hid (zaX.below hxv hal).val;obtain⟨HGj,HFy,HFxj,HSj,Hxb,Hyb⟩:=hd6 (HOut.out.below hal) (HOut.out.un.fresh hal (Za _) Yc) (HFx.out.stp (Stp.of hal HOut.out.un.lt)) ((HSy.out.stp HGy.out HOut.out.st).below hal) (show BdF D B N x1 from by rw[<- hxk];exact HBx.out.at hD k) (show BdF D B N y1 from by rw[<- hyk];exact HBy.out.at hD k);have u0:=(hal.cell (p:=⟨bx,ox+k*4,none⟩) hbx).trans xc0;have u1:=(hal.cell (p:=⟨bx,ox+k*4+1,none⟩) hbx).trans xc1;have u2:=(hal.cell (p:=⟨bx,ox+k*4+2,none⟩) hbx).trans xc2;have u3:=(hal.cell (p:=⟨bx,ox+k*4+3,none⟩) hbx).trans xc3;obtain⟨HU4,HAx⟩:=hd2 (And.intro u0 (And.intro u1 (And.intro u2 u3))) hax;rw[hay];clear hyy hyv hal HOut HXr HYr hxx hxv hxk hyk u0 u1 u2 u3 xc0 xc1 xc2 xc3 hax
   go_upto_region 22 with fail
   generalize wr.alloc (.cells #[.slice ya yn yc,.bool yb,.slice yan ynn ycn,.slice yad ynd ycd] 53)=wj at *;clear yc0 yc1 yc2 yc3;have hLj:=HGj.out.un;have HCe:Hid (∀X,Stp gG wj X->X.cell? ⟨wr.heap.size,0,none⟩=some (.slice ya yn yc)/\X.cell? ⟨wr.heap.size,1,none⟩=some (.bool yb)/\X.cell? ⟨wr.heap.size,2,none⟩=some (.slice yan ynn ycn)/\X.cell? ⟨wr.heap.size,3,none⟩=some (.slice yad ynd ycd)/\
     X.cell? ⟨bx,ox+k*4,none⟩=some (.slice xa xn xc)/\X.cell? ⟨bx,ox+k*4+1,none⟩=some (.bool xb)/\X.cell? ⟨bx,ox+k*4+2,none⟩=some (.slice xan xnn xcn)/\X.cell? ⟨bx,ox+k*4+3,none⟩=some (.slice xad xnd xcd)/\
     X.cell? ⟨gL,10,none⟩=some (.slice (some ⟨bx,ox,none⟩) S.nx S.cx)):=fun X hs=>
    ⟨(HFy.out.cell hs).trans HYb.out.c0,(HFy.out.cell hs).trans HYb.out.c1,(HFy.out.cell hs).trans HYb.out.c2,(HFy.out.cell hs).trans HYb.out.c3,
     (HFxj.out.cell hs).trans HU4.out.1,(HFxj.out.cell hs).trans HU4.out.2.1,(HFxj.out.cell hs).trans HU4.out.2.2.1,(HFxj.out.cell hs).trans HU4.out.2.2.2,by rw[((HSj.out.fre HGj.out.un).cell hs).trans HSj.out.f10,HAx.out]⟩
   obtain⟨pr,hpr⟩:∃pr,pr=zbi 1 x1 y1:=⟨_,rfl⟩
   rw[<- hpr]at HStep;have HAdd:Hid (∀X,Stp gG wj X->Calls Tryz.prog 60 #[.agg #[.slice xa xn xc,.bool xb,.slice xan xnn xcn,.slice xad xnd xcd],.agg #[.slice ya yn yc,.bool yb,.slice yan ynn ycn,.slice yad ynd ycd]] X (za2 X pr)):=fun X hs=>by
    rw[hpr];have h:=HPP.out;rw[HPE.out]at h;exact zr9 (HXv.out.stp HGj.out.un hs) (HYv.out.stp HGj.out.un hs) Hxb.out Hyb.out h hN
   have hgy:=HFy.out.lt;have hgx:=HFxj.out.lt;have HGe:=hid HGj.out.st.size;have HLl:Hid ((zmC x y k).length=k):=ziI x y k;obtain⟨Lk,hLk⟩:∃Lk,Lk=zmC x y k:=⟨_,rfl⟩
   rw[<- hLk]at HLl HStep HGj;clear hpr hLk
   refine zal 11 Yb Yb Yb Yb Yd (zfe gG n wj U U 99 [.val (.slice b0 k k0),.val (.pointer (some ⟨gL,0,none⟩)),.val (.pointer (some ⟨gL,0,none⟩)),.val (.pointer (some ⟨gL,10,none⟩)),.val (.slice (some ⟨bx,ox,none⟩) S.nx S.cx),.val (.int .i64 (k:Int)),.val (.pointer (some ⟨bx,ox+k*4,none⟩)),.val (.agg #[.slice xa xn xc,.bool xb,.slice xan xnn xcn,.slice xad xnd xcd]),.val (.agg #[.slice ya yn yc,.bool yb,.slice yan ynn ycn,.slice yad ynd ycd]),.frm pr,.onf pr]) (fun g=>zfe.start YS g) ?_ ?_
   ·intro ops;simp only[Zo,Zw,zc1]
    refine⟨?v0,?v1,?_,?_,?_,?v5,?_,?_,?_,?_,?_,trivial⟩
    case v0|v1|v5=>
     intro d y' X hJ hd hW;exact IU
    ·exact IW
    ·exact IS
    ·intro d y' X hJ hd hW;obtain⟨a0,a1,a2,a3,e0,e1,e2,e3,f10⟩:=HCe.out X hJ.st;have hxy:=Zb hgy hJ.st.size;have hxx:=Zb hgx hJ.st.size;exact IT
    ·intro d y' X hJ hd hW;simp only[zaE,Region.binds,ZB,Zn,Zx,Z0,Z6]at hW;have h4:d 4=true:=Ye;have h5:d 5=true:=Ye;have J4:=hJ.all 4 h4;have J5:=hJ.all 5 h5;simp only[GU,Zf,Zc]at J4 J5;simp[ze,Act.put];generalize hg4:y' 4=y4;rw[hg4]at J4;generalize hg5:y' 5=y5;rw[hg5]at J5;clear hg4;obtain rfl:=J4;clear hg5;obtain rfl:=J5;have HJ:=hid hJ;clear hJ hd hW h4 h5;exact Ux
    ·intro d y' X hJ hd hW;obtain⟨a0,a1,a2,a3,e0,e1,e2,e3,f10⟩:=HCe.out X hJ.st;have hxy:=Zb hgy hJ.st.size;have hxx:=Zb hgx hJ.st.size;simp only[zaE,Region.binds,ZB,Zn,Zx,Z0,Z6]at hW;have h6:d 6=true:=Ye;have J6:=hJ.all 6 h6;simp only[GU,Zf,Zc]at J6;simp[ze,Act.put];generalize hg6:y' 6=y6;rw[hg6]at J6;clear hg6;obtain rfl:=J6;have HJ:=hid hJ;clear hJ hd hW h6;exact Ux
    ·intro d y' X hJ hd hW;obtain⟨a0,a1,a2,a3,e0,e1,e2,e3,f10⟩:=HCe.out X hJ.st;have hxy:=Zb hgy hJ.st.size;have hxx:=Zb hgx hJ.st.size;exact IU
    ·intro d y' X hJ hd hW;simp only[zaE,Region.binds,ZB,Zn,Zx,Z0,Z6]at hW;have h7:d 7=true:=Ye;have h8:d 8=true:=Ye;have J7:=hJ.all 7 h7;have J8:=hJ.all 8 h8;simp only[GU,Zf,Zc]at J7 J8;simp[ze,Act.put];generalize hg7:y' 7=y7;rw[hg7]at J7;generalize hg8:y' 8=y8;rw[hg8]at J8;clear hg7;obtain rfl:=J7;clear hg8;obtain rfl:=J8;have HJ:=hid hJ;clear hJ hd hW h7 h8;have HCt:=hid (HAdd.out X HJ.out.st);exact Ta
    ·intro d y' X hJ hd hW;simp only[zaE,Region.binds,ZB,Zn,Zx,Z0,Z6]at hW;have h9:d 9=true:=Ye;have J9:=hJ.all 9 h9;simp only[GU,Zf,Zc]at J9;simp[ze,Act.put];generalize hg9:y' 9=y9;rw[hg9]at J9;clear hg9;have K9:=hid J9;clear J9;have HJ:=hid hJ;clear hJ hd hW h9;obtain⟨xa,xn,xc,xb,xan,xnn,xcn,xad,xnd,xcd,rfl⟩:=K9.out.spell;obtain⟨HRow,HBa⟩:=hd2 (zfp.form K9.out.fp 53) ((Ze X.heap.size X).alloc (Za _) (.cells #[.slice xa xn xc,.bool xb,.slice xan xnn xcn,.slice xad xnd xcd] 53));have HFr:=hid (HJ.out.un.fresh HBa.out (Za _) Yc);clear K9;exact EB
   ·intro ops d y' X hA hJ;have J0:=hJ.all 0 (hA 0 Yd);have J10:=hJ.all 10 (hA 10 Yd);simp only[GU,Zf,Zc]at J0 J10;obtain⟨a0,a1,a2,a3,e0,e1,e2,e3,f10⟩:=HCe.out X hJ.st;have hxy:=Zb hgy hJ.st.size;have hxx:=Zb hgx hJ.st.size;obtain⟨HLn,HSn⟩:=hd2 hJ.same hJ.st;clear hJ hA;simp only[Zo,Zw,ZG,ZO];simp[ze,Act.put];generalize y' 0=y0 at J0⊢;obtain rfl:=J0;generalize y' 10=y10 at J10⊢;have HRow:=hid J10.1;clear J10;obtain⟨HGX,HGe2⟩:=hd2 (HGj.out.stp HSn.out HLn.out) (Zi HGe.out HSn.out.size)
    go_wp2_with (at_builtin;refine apF rfl (.tmp 73) (.tmp 83) rfl Wy.heap.size (.slice b0 k k0) k Lk HLl.out rfl HGX.out.own.own _ pr HRow.out rfl Ya HGe2.out ?_;intro b3 k3 w3 hown hk3 hg hbe hnx;have HOut3:=hid (show zeV gG n Wy w3 (.slice b3 (k+1) k3) (zmC x y (k+1)) U from by rw[HStep.out];exact HGX.out.app hown hg hnx);clear hown hg hbe hnx)
    exact Ik
  ·obtain rfl:k=S.nx:=Ya;go_wp2;exact Zp (v:=.slice b0 S.nx k0) XY rfl ((HOut.out.rebase HSt.out HBd.out.size).ret (ziI x y S.nx))
theorem zfI{β:Type}{f:List zl->β->List zl×zl}(h:∀U b,∃V,(f U b).1=U++V):∀(l:List β) (U:List zl),∃V,(z7 f l U).1=U++V
 | [],U=>⟨[],KK⟩
 | b::r,U=>by
  obtain⟨V1,e1⟩:=h U b;obtain⟨V2,e2⟩:=zfI h r (f U b).1;exact⟨V1++V2,YT⟩
theorem zha{β:Type}{f:List zl->β->List zl×zl}{nI N:Nat}{P:zl->Prop}(happ:∀U b,∃V,(f U b).1=U++V):∀(l:List β) (U:List zl),(∀U b,b∈l->nI+(f U b).1.length<=N->P (f U b).2)->nI+(z7 f l U).1.length<=N->∀y∈(z7 f l U).2,P y
 | [],U,_,_=>fun y hy=>by cases hy
 | b::r,U,h,hN=>by
  intro y hy;have hN':nI+(z7 f r (f U b).1).1.length<=N:=hN;obtain⟨V,e⟩:=zfI happ r (f U b).1
  rcases Za7.1 hy with e2|hy
  ·subst e2;exact h U b Zal JM
  ·exact zha happ r (f U b).1 (fun U x hx=>h U x (ZaP _ hx)) hN' y hy
theorem znW{nI:Nat}{U:List zl}{l:zac}{s:List Int}{X fr:List zl}{D B N:Nat}(hf:zqK l s)(hx:(X.length:Int)=zt s)(hxl:X.length<=16384)(hX:zcp D B N X)(hF:zcp D B N fr)(hD:0<D)(hB:1<=B)(hs:zbN l)(hN:nI+(z8 nI U l s X fr).1.length<=N):
  ∃k,0<k/\k<=WQ/\zcp (D*k) (9671406556917033397649408*B) N (z8 nI U l s X fr).2:=by
 have pp:(1:Nat)<=WQ:=zcD;have stay:∀{z:List zl} {C:Nat},C<=9671406556917033397649408*B->zcp D C N z->zcp (D*1) (9671406556917033397649408*B) N z:=fun hc h=>by rw[Zba];exact h.mono hc (Za _)
 unfold z8 at hN⊢
 cases hf with
 | dense R hk ho h1 h2 hb hw=>
  obtain⟨W,w1,w2,w3⟩:=BdL.small _ hs.num;rw[Zm hk]
  refine⟨W,w1,zih w2 hs.len,fun f hf=>?_⟩
  obtain⟨r,_,rfl⟩:=ZP.1 hf;rw[ZD D W];exact(BdF.sum (BdL.at (fun q hq=>w3 q (List.mem_append_right _ hq)) w1 _) (BdL.part (fun q hq=>w3 q (ZaQ _ hq)) _ _) hX hD _ _ _).mono (zgP Ya hB) (Za _)
 | conv q O hk hq ht hs' e1 e2 e3 e4 ho h1 hb hw hwl hz=>
  obtain⟨W,w1,w2,w3⟩:=BdL.small _ hs.num;have hbd:=Win.len_bd hq ht;rw[q.one_len]at hbd;rw[Zg Ya,Zm hk,hwl]
  refine⟨W,w1,zih w2 hs.len,fun f hf=>?_⟩
  obtain⟨o,_,hf⟩:=Za3.1 hf;obtain⟨i,hi,rfl⟩:=ZP.1 hf;have hl:(q.all.getD i []).length<=262144:=by
   rw[Zd,Zh (Z5.1 hi)];exact Zi (ZbA (q.all_one_len' _ (Z1 _))) hbd.2.1
  rw[ZD D W];exact(BdF.sum (BdL.at (fun q hq=>w3 q (List.mem_append_right _ hq)) w1 _) (BdL.part (fun q hq=>w3 q (ZaQ _ hq)) _ _) hX hD _ _ _).mono (zgP hl hB) (Za _)
 | pool q hk hq ht hs' e1 e2 e3 e4 hp hwl hz=>
  rw[Zg Ya,Zg Ya,hwl]at hN⊢;have hC:(s.getD 0 0).toNat=q.C:=Xa;have hn:l.kh.toNat*l.kw.toNat=q.kh*q.kw:=Jj;have hlen:=zej (q:=q) hC hn;have hpos:1<=q.kh*q.kw:=Zak hq.kh1 hq.kw1;have hbd:=Win.len_bd hq ht;rw[q.one_len]at hbd;have hkl:q.kh*q.kw<=262144:=Zi (Zad _ hq.c1) hbd.2.1
  rcases hk with hk|hk
  ·rw[Zm hk]at hN⊢
   refine⟨1,Ya,pp,stay (C:=B+q.kh*q.kw) Ya ?_⟩
   refine zha (P:=fun y=>BdF D (B+q.kh*q.kw) N y) (fun U b=>zaO _ _ _ _) _ U (fun U g hg hN2=>?_) hN
   have hgl:=hlen g hg;have hvl:=zaP g X;rw[zax nI g.length U (zba g X) Ya Ya]at hN2;exact(BdF.greatB hD hB nI g.length U (zba g X) (hX.vals hD g) Ya Ya Ya).mono Ya (Za _)
  ·rw[Zg Ya,Zm hk]at hN⊢
   refine⟨q.kh*q.kw,hpos,zih (n:=1) (Zi hkl Ya) Ya,fun f hf=>?_⟩
   obtain⟨g,hg,rfl⟩:=ZP.1 hf;have hgl:=hlen g hg;have hvl:=zaP g X;have h:=BdF.mean (hX.vals hD g) hD Ya;rw[hvl,hgl,hn]at h;rw[ZD D]
   refine h.mono ?_ (Za _)
   rw[Zao];exact Zl B Ya
 | keep hk=>
  rw[Zg Ya,Zg Ya,Zg Ya,Zg Ya]at hN⊢
  rcases hk with hk|hk
  ·rw[Zm hk]at hN⊢
   refine⟨1,Ya,pp,stay (C:=B) Ya ?_⟩
   refine zha (P:=fun y=>BdF D B N y) (fun U b=>zi9 nI U b) _ U (fun U f hf hN2=>?_) hN
   exact BdF.var hD hB (by simp[zcr]at hN2;omega)
  ·rw[Zg Ya,Zg Ya];exact⟨1,Ya,pp,stay Ya hX⟩
 | add hk=>
  rw[Zg Ya,Zg Ya,Zg Ya,Zg Ya,Zg Ya,Zm hk]
  refine⟨1,Ya,pp,stay (C:=B+B) Ya fun f hf=>?_⟩
  obtain⟨k,_,rfl⟩:=ZP.1 hf;exact(hX.at hD k).add (hF.at hD k)
theorem zlT{lo:Nat}(hk:k<n):(zas ws lo n).getD (0+k) 0=ws.getD (lo+k) 0:=by
 rw[ZR,Zd,Zd,zln hk]
def zr6(gG n:Nat)(w:World)(U L:List zl)(e:Ending)(w':World):Prop:=∃a c,e=.returned (.slice a L.length c)/\L.length<=c/\zee gG w' a L/\LSt w' gG n U/\Stp gG w w'
theorem zqn.x(h:zqn gG n w U L e w')(hl:L.length<=9223372036854775807):zr6 gG n w U L e w':=by
 obtain⟨a,c,he,hg⟩:=h;obtain⟨a',c',e',hc⟩:=hg.own.own.form;cases e';exact⟨a,c,he,hc,hg.own.read hl,hg.un,hg.st⟩
theorem zr6.slice(h:zr6 gG n w U L e w'):∃a n c,e=.returned (.slice a n c):=by
 obtain⟨a,c,he,_⟩:=h;exact⟨_,_,_,he⟩
theorem zg6{b:Rat}{ws:List Rat}{lo n:Nat}{ix:List Int}{x:List zl}:∀{k:Nat},k<=n->zdq b ws lo ix x k=zdq b (zas ws lo n) 0 ix x k
 | 0,_=>rfl
 | k+1,h=>by
  unfold zdq;rw[zg6 (n:=n) (k:=k) Ya,zlT (show k<n from Ya)]
theorem zmK(R:Nat)(bs ws:List Rat)(x:List zl):zet R bs ws x=(List.range R).map fun r=>zdq (bs.getD r 0) (zas ws (r*x.length) x.length) 0 (zbq x.length) x x.length:=by
 unfold zet
 refine ZaJ fun r _=>?_
 unfold zfz;exact zg6 (Za _)
theorem zoT{O:Nat}{x:List zl}(h:∀ix∈win,ix.length=n):zeq (zdi bs ws n win x) win.length O 0=
  (List.range O).flatMap fun o=>(List.range win.length).map fun i=>zdq (bs.getD o 0) (zas ws (o*n) n) 0 (win.getD i []) x (win.getD i []).length:=by
 unfold zeq;simp only[List.range_zero,List.map_nil,ZaK]
 congr 1
 funext o
 refine ZaJ fun i hi=>?_
 unfold zdi
 refine zg6 ?_
 rw[Zd,Zh (Z5.1 hi)];exact ZbA (h _ (Z1 _))
theorem zrN{w:World}{gL gG nI:Nat}{S:zdp}{l:zac}{s:List Int}{x y U:List zl}{F:Nat->Prop}{D B N:Nat}(hL:zaY w gL S)(hfu:S.fu=zlG gG)(hG:LSt w gG nI U)(hf:zqK l s)(hn:zeC l=true)(hx:(x.length:Int)=zt s)(hxl:x.length<=16384)(hx1:1<=x.length)
 (g0:S.kd=l.kind)(g1:S.fr=l.frm)(g3:S.kh=l.kh)(g4:S.kw=l.kw)(g5:S.st=l.stride)(g6:S.pd=l.pad)(n1:l.weights.length=S.n1)(n2:l.bias.length=S.n2)(nS:s.length=S.nS)(nx:x.length=S.nx)(hcx:S.nx<=S.cx)
 (h1:zm w S.a1 l.weights)(h2:zm w S.a2 l.bias)(hS:zah w F S.aS s)(hX:zee gG w S.ax x)
 (h7:l.kind=7->∃(bT oT:Nat) (af:Option Addr) (cf fr1:Nat),S.fr+1=(fr1:Int)/\S.aT=some ⟨bT,oT,none⟩/\fr1<S.nT/\bT<w.heap.size/\w.cell? ⟨bT,oT+fr1,none⟩=some (.slice af S.nx cf)/\zee gG w af y/\y.length=S.nx/\S.nT<=1000000)
 (hsm:zbN l)(hxB:zcp D B N x)(hyB:zcp D B N y)(hD:0<D)(hB:1<=B)(hR:zo6 D B)(hN5:N<=500000)(hN:nI+(z8 nI U l s x y).1.length<=N):
  Calls Tryz.prog 35 #[.pointer (some ⟨gL,0,none⟩)] w (zr6 gG nI w (z8 nI U l s x y).1 (z8 nI U l s x y).2):=by
 unfold zeC at hn;rw[Zu]at hn;have hw:l.weights=(wq l).map zc:=zb3 hn.1;have hb:l.bias=(bq l).map zc:=zb3 hn.2;have hwl:l.weights.length=(wq l).length:=by simp[wq]
 have hbl:l.bias.length=(bq l).length:=by simp[bq]
 have pp:D*1<=D*WQ:=ZQ _ zcD;rw[Zba]at pp;have hBB:B<=9671406556917033397649408*B:=Ya;rw[hw]at h1;rw[hb]at h2;have wide:∀W:Nat,W<=4294967296^(wq l++bq l).length->W*D<=D*WQ:=fun W h=>by
  rw[ZD];exact ZQ _ (zih h hsm.len)
 obtain⟨W,w1,w2,w3⟩:=BdL.small _ hsm.num;have hwW:BdL W 18446744073709551616 (wq l):=fun q hq=>w3 q (ZaQ _ hq)
 have hbW:BdL W 18446744073709551616 (bq l):=fun q hq=>w3 q (List.mem_append_right _ hq)
 have hWD:=wide W w2;have n1':(wq l).length=S.n1:=by rw[<- hwl];exact n1
 have n2':(bq l).length=S.n2:=by rw[<- hbl];exact n2
 have hlen:=hsm.len;rw[ZE]at hlen;have payW:∀k:Nat,k<=16385*16->Pay (W*D) (18446744073709551616+B+(k+1)*(18446744073709551616*B)):=fun k hk=>hR.pay hWD (by
  have:(k+1)*(18446744073709551616*B)<=262161*(18446744073709551616*B):=Zl _ Ya;omega)
 unfold z8 at hN⊢
 cases hf with
 | dense R hk ho h1' h2' hb' hw'=>
  rw[Zm hk,ho];have e:(zt s).toNat=x.length:=Ya;rw[e]at hw';have eR:S.n2=R:=Ya;have eN:S.n2*S.nx=S.n1:=by rw[eR,<- nx,<- hw',n1]
  have h:=(zsP hL n1' n2' nx h1 h2 hX.at' (ZbA eN) Ya Ya Ya hwW hbW w1 hxB hD (payW _ Ya) hN5).mono fun e w' h=>(h.un hG).x (by rw[zfw];omega)
  rw[zmK,eR]at h;exact ztZ hL Jb h fun e w' h=>h.slice
 | conv q O hk hq ht hs' e1 e2 e3 e4 ho h1' hb' hw' hwin hz=>
  have hbd:=Win.len_bd hq ht;rw[q.one_len]at hbd;have hal:=q.all_len;have hkk:=ZL q.C q.kh q.kw;have hsz:x.length=q.C*q.H*q.W:=US;have hC:s.getD 0 0=(q.C:Int):=Xa;rw[Zg Ya,Zm hk,hwin,hC,ho,e1,e2];simp only[ZaH];have eO:S.n2=O:=Ya;have eN:S.n2*(q.C*q.kh*q.kw)=S.n1:=by rw[eO,<- n1,hw']
  have hln:∀ix∈q.all,ix.length=q.C*q.kh*q.kw:=by rw[hkk];exact q.all_one_len'
  have hOT:S.n2*q.all.length<=1000000:=by rw[eO,hal];omega
  have h:=(ztq (n:=q.C*q.kh*q.kw) (T:=q.all.length) (win:=q.all) hL n1' n2' nx nS h1 h2 hX.at' hS (by rw[g3,g4,g5,g6,hwin]) rfl hln (by rw[hsz];exact hq.all_lt) (ZbA eN)
   Ya Ya Ya Ug (Zi hbd.1 Yd) hOT hwW hbW w1 hxB hD (payW _ Ug) hN5).mono fun e w' h=>(h.un hG).x (by rw[zg8];omega)
  rw[zoT hln,eO]at h;exact ztd hL Jb h fun e w' h=>h.slice
 | pool q hk hq ht hs' e1 e2 e3 e4 hp hwin hz=>
  have hbd:=Win.len_bd hq ht;rw[q.one_len]at hbd;have hal:=q.all_len;have hsz:x.length=q.C*q.H*q.W:=US;have hC:s.getD 0 0=(q.C:Int):=Xa;have hix:∀ix∈q.all,∀i∈ix,0<=i/\i<(x.length:Int):=fun ix hi i hj=>⟨hq.all_nn hp ix hi i hj,V5⟩
  have hpos:1<=q.kh*q.kw:=Zak hq.kh1 hq.kw1;have hkl:q.kh*q.kw<=262144:=Zi (Zad _ hq.c1) hbd.2.1;have hgl:∀g∈zcH q.C (q.kh*q.kw) q.all,g.length=q.kh*q.kw:=zej rfl rfl;rw[Zg Ya,Zg Ya,hwin,hC,e1,e2]at hN⊢;simp only[ZaH]at hN⊢;have hwin2:(zB s S.kh S.kw S.st S.pd).1=q.all:=by rw[g3,g4,g5,g6,e4,hwin]
  have hCT:q.C*q.all.length<=1000000:=by rw[hal];omega
  rcases hk with hk|hk
  ·rw[Zm hk]at hN⊢
   refine zty hL Jb ?_ fun e w' h=>h.slice
   refine(zsa (C:=q.C) (n:=q.kh*q.kw) (T:=q.all.length) hL hG nx nS hX hS (by rw[g3,e1]) (by rw[g4,e2]) rfl Xa hwin2 rfl rfl q.all_one_len' hix Ya hpos Ya Ya Ya hCT
    (fun X m a c g hg hm hgn hU hB' hr hc=>?_)).mono fun e w' h=>h.x VO
   have hlt:=(Zr.1 hg).1;have hvl:=zaP g x;have hstep:∀g∈zcH q.C (q.kh*q.kw) q.all,∀U:List zl,(zZ nI g.length U (zba g x)).1.length=U.length+(q.kh*q.kw-1):=fun g hg U=>by
    have h1:=hgl g hg;have h2:=zaP g x;rw[zax nI g.length U (zba g x) Ya Ya,h2,h1]
   have c1:=zdX (f:=fun U g=>zZ nI g.length U (zba g x)) ((zcH q.C (q.kh*q.kw) q.all).take m) U (fun g hg=>hstep g (ZT hg));have c2:=zdX (f:=fun U g=>zZ nI g.length U (zba g x)) (zcH q.C (q.kh*q.kw) q.all) U hstep;rw[Z8,Nat.min_eq_left (Zan hlt)]at c1;have c3:(q.kh*q.kw-1)*(m+1)<=(q.kh*q.kw-1)*(zcH q.C (q.kh*q.kw) q.all).length:=ZQ _ hlt;rw[Nat.mul_succ]at c3;have h:=zpM hfu Ya hD hB hN5 (e:=q.kh*q.kw) (hR.pay pp Ya) g.length X (z7 (fun U g=>zZ nI g.length U (zba g x)) ((zcH q.C (q.kh*q.kw) q.all).take m) U).1 (zba g x) a c Ya hB' hU hr (hxB.vals hD g) Ya Ya Ya Ya;rw[hvl,hgn]at h;rw[hgn];exact h
  ·rw[Zg Ya,Zm hk]
   refine ztD hL Jb ?_ fun e w' h=>h.slice
   have hfp:=zhV (fun g=>zfP (zba g x)) (zcH q.C (q.kh*q.kw) q.all) U;have h:=(zsc (C:=q.C) (n:=q.kh*q.kw) (T:=q.all.length) (G:=fun U g=>(U,zfP (zba g x))) hL hG nx nS hX hS (by rw[g3,e1]) (by rw[g4,e2]) rfl Xa hwin2 rfl rfl q.all_one_len' hix Ya hpos Ya Ya Ya hCT
    (fun X m a c g hg hm hgn hU hB' hr hc=>by
     have hvl:=zaP g x
     refine(ztP hr.at' (hvl.trans hgn) hpos Ya (hxB.vals hD g) hD (hR.pay ?_ ?_) hN5).mono fun e w' h=>h.un hU
     ·rw[ZD];exact ZQ _ (zih (n:=1) (Zi hkl Ya) Ya)
     ·have:=Zl B hkl;omega)).mono fun e w' h=>h.x VO
   rw[hfp]at h;exact h
 | keep hk=>
  rw[Zg Ya,Zg Ya,Zg Ya,Zg Ya]at hN⊢
  rcases hk with hk|hk
  ·rw[Zm hk]at hN⊢;have hfl:=zfK (zcr nI) 1 x U (fun U b _=>by simp[zcr]);exact(ztX hL Jb hfu hG hX nx Ya Ya Ya).mono fun e w' h=>h.x (by rw[zbI];omega)
  ·rw[Zg Ya,Zg Ya]
   refine(ztS hL Jb).mono ?_
   rintro e w' ⟨rfl,hb⟩;exact⟨S.ax,S.cx,by rw[nx],by rw[nx];exact hcx,hX.stp hG (Stp.of hb hG.lt),hG.below hb,Stp.of hb hG.lt⟩
 | add hk=>
  rw[Zg Ya,Zg Ya,Zg Ya,Zg Ya,Zg Ya,Zm hk];obtain⟨bT,oT,af,cf,fr1,k1,k2,k3,k4,k5,k6,k7,k8⟩:=h7 hk;have h:=(ztr hL Jb k1 k2 k3 k4 k5 hG hX nx k6 k7 rfl Ya k8 hxB hyB hD (hR.pay pp Ya) hN5).mono fun e w' h=>h.x (by rw[ziI];omega)
  unfold zmC at h;rw[<- nx]at h;exact h
theorem zbC.set{p:Value->Bool}{w:World}{g:Nat}(h:zbC p w g)(i:Nat){v:Value}(hv:p v=true):zbC p (w.setCell ⟨g,i,none⟩ v) g:=by
 intro o u e
 by_cases ho:o=i
 ·subst ho
  cases hc:w.cell? ⟨g,o,none⟩with
  | none=>rw[zb7 hc]at e;cases e
  | some z=>
   rw[Z3 _ _ _ hc]at e;cases e;exact hv
 ·rw[ZA _ _ _ _ (by intro e2;cases e2;exact ho rfl)]at e;exact h o u e
theorem zbC.belowB{p:Value->Bool}(h:zbC p w g)(hb:Below B w w')(hg:g<B):zbC p w' g:=fun o x e=>h o x ((hb.cell (p:=⟨g,o,none⟩) hg).symm.trans e)
structure zqo (W:World) (g n:Nat) (f:Nat->Value):Prop where
 c:∀i,i<n->W.cell? ⟨g,i,none⟩=some (f i)
 free:∀i,W.frozen? ⟨g,i,none⟩=false
 lt:g<W.heap.size
def zti(f:Nat->Value)(i:Nat)(v:Value):Nat->Value:=fun j=>if j=i then v else f j
theorem zqo.set{f:Nat->Value}(h:zqo W g n f)(hi:i<n)(v:Value):zqo (W.setCell ⟨g,i,none⟩ v) g n (zti f i v):=by
 refine⟨fun j hj=>?_,fun o=>by simp[Zai,h.free o],Kw⟩
 unfold zti
 by_cases e:j=i
 ·subst e;rw[Zm rfl];exact Z3 _ _ _ (h.c _ hj)
 ·rw[Zg e,ZA _ _ _ _ (by intro e2;cases e2;exact e rfl)];exact h.c _ hj
theorem zqo.congr{f f':Nat->Value}(h:zqo W g n f)(e:∀i,i<n->f i=f' i):zqo W g n f':=⟨fun i hi=>by rw[<- e i hi];exact h.c i hi,h.free,h.lt⟩
theorem zmf{P:Nat->Prop}(h0:P 0)(h1:P 1)(h2:P 2)(h3:P 3)(h4:P 4)(h5:P 5)(h6:P 6)(h7:P 7)(h8:P 8)(h9:P 9)(h10:P 10)(h11:P 11)(h12:P 12):∀i,i<13->P i:=by
 intro i hi;have:i=0∨i=1∨i=2∨i=3∨i=4∨i=5∨i=6∨i=7∨i=8∨i=9∨i=10∨i=11∨i=12:=Ya
 rcases this with rfl|rfl|rfl|rfl|rfl|rfl|rfl|rfl|rfl|rfl|rfl|rfl|rfl<;>assumption
theorem zfd(n lo hi:Int)(w:World):Calls Tryz.prog 136 #[.int .i64 n,.int .i64 lo,.int .i64 hi] w fun e w'=>e=.returned (.bool (zi0 n lo hi))/\w=w':=by
 go_enter Tryz.func136,Tryz.ntmps136
 go_wp2
 all_goals
  go_ret
  refine⟨zi ?_,rfl⟩
  unfold zi0;rw[ZZ];simp
  try omega
def zfy(n:Nat)(d:Int):Bool:=decide (0<n) && (decide (n<=16384) && decide ((n:Int)%d=0))
theorem zgA(n:Nat)(d:Int)(hn:n<=9223372036854775807)(h1:1<=d)(h2:d<=1000000000)(w:World):Calls Tryz.prog 138 #[.int .i64 (n:Int),.int .i64 d] w fun e w'=>e=.returned (.bool (zfy n d))/\w=w':=by
 generalize hR:zfy n d=R;unfold zfy at hR
 by_cases e2:0<n
 ·by_cases e3:n<=16384
  ·rw[Zk e2,Zk e3]at hR
   by_cases e4:(n:Int)%d=0
   ·have t4:((n:Int)%d==0)=true:=by rw[ZaS];exact e4
    rw[Zk e4]at hR;have HR:=hid hR;clear hR e4
    go_enter Tryz.func138,Tryz.ntmps138
    go_wp2;go_ret;exact⟨zi HR.out,rfl⟩
   ·have t4:((n:Int)%d==0)=false:=by rw[Zaf];exact e4
    rw[Zj e4]at hR;have HR:=hid hR;clear hR e4
    go_enter Tryz.func138,Tryz.ntmps138
    go_wp2;go_ret;exact⟨zi HR.out,rfl⟩
  ·rw[Zk e2,Zj e3]at hR;have HR:=hid hR;clear hR
   go_enter Tryz.func138,Tryz.ntmps138
   go_wp2;go_ret;exact⟨zi HR.out,rfl⟩
 ·rw[Zj e2]at hR;have HR:=hid hR;clear hR
  go_enter Tryz.func138,Tryz.ntmps138
  go_wp2;go_ret;exact⟨zi HR.out,rfl⟩
theorem zab{L:List zaf}(c:Nat)(h:zm w a L)(hL:∀x∈L,zD x 1048576):
  Calls Tryz.prog 137 #[.slice a L.length c] w fun e w'=>e=.returned (.bool (L.all zP))/\Below w.heap.size w w':=by
 have hl:=h.len;obtain⟨H,HL⟩:=hd2 h hL;have HR:Hid (L.all zP=L.all zP):=rfl;have HF:Hid (∀x∈L,zP x=false->L.all zP=false):=fun x hx hf=>zfv hx hf
 clear h hL
 go_enter Tryz.func137,Tryz.ntmps137
 go_wp2
 go_loopw [3] (fun i wr=>∃j:Nat,j<=L.length/\i=.int .i64 (j:Int)/\Hid ((L.take j).all zP=true)/\Hid (Below w.heap.size w wr)) (fun i _=>L.length-(intOf i).toNat)
 case atStart=>exact⟨0,Zs _,rfl,rfl,Ze _ _⟩
 case round=>
  exact UF
def zci(l:zac):Bool:=(l.kh==0) && ((l.kw==0) && ((l.stride==0) && (l.pad==0)))
def zcu(l:zac):Bool:=((l.weights.length:Int)==0) && ((l.bias.length:Int)==0)
theorem zoX(n:Int):zi0 n 1 64=zc6 n:=by
 unfold zi0 zc6;rw[ZZ];simp
def zbY(l:zac)(i:Int):Bool:=
 l.weights.all zP && (l.bias.all zP &&
 (if l.kind=1 then zci l && ((l.frm==0) && (zi0 l.out 1 16384 && (((l.bias.length:Int)==l.out) && zfy l.weights.length l.out)))
 else if l.kind=2 then zdo l && ((l.frm==0) && (decide (0<=l.pad) && (decide (l.pad<l.kh) && (decide (l.pad<l.kw) && (zi0 l.out 1 16384 && (((l.bias.length:Int)==l.out) && zfy l.weights.length (l.out*l.kh*l.kw)))))))
 else if l.kind=3∨l.kind=4 then zdo l && ((l.frm==0) && ((l.pad==0) && ((l.out==0) && zcu l)))
 else if l.kind=5∨l.kind=6 then zci l && ((l.frm==0) && ((l.out==0) && zcu l))
 else if l.kind=7 then zci l && (zi0 l.frm (-1) (i-1) && ((l.out==0) && zcu l))
 else false))
theorem zpa(l:zac):zcu l=zia l:=by
 unfold zcu zia;rw[ZZ];simp only[Zu,ZaS,ZC]
 constructor
 ·rintro⟨h1,h2⟩;exact⟨Zy Ya,Zy Ya⟩
 ·rintro⟨h1,h2⟩;rw[h1,h2];exact⟨rfl,rfl⟩
theorem zcg(l:zac)(i:Int):zbY l i=zai l i:=by
 unfold zbY zai zeC zcT;rw[zpa]
 by_cases k1:l.kind=1
 ·rw[Zm k1,Zm k1,ZZ];unfold zci zi0 zfy zhx zjJ;simp only[Zu,ZaS,ZC]
  constructor
  ·rintro⟨a,b,⟨c1,c2,c3,c4⟩,d,⟨e1,e2⟩,f,g1,g2,g3⟩;exact⟨⟨⟨e1,e2⟩,⟨f,g1,g2,g3⟩,d,c1,c2,c3,c4⟩,a,b⟩
  ·rintro⟨⟨⟨e1,e2⟩,⟨f,g1,g2,g3⟩,d,c1,c2,c3,c4⟩,a,b⟩;exact⟨a,b,⟨c1,c2,c3,c4⟩,d,⟨e1,e2⟩,f,g1,g2,g3⟩
 rw[Zg k1,Zg k1]
 by_cases k2:l.kind=2
 ·rw[Zm k2,Zm k2,ZZ];unfold zi0 zfy zhx zjJ;simp only[Zu,ZaS,ZC]
  constructor
  ·rintro⟨a,b,c,d,p1,p2,p3,⟨e1,e2⟩,f,g1,g2,g3⟩;exact⟨⟨⟨e1,e2⟩,c,p1,p2,p3,⟨f,g1,g2,g3⟩,d⟩,a,b⟩
  ·rintro⟨⟨⟨e1,e2⟩,c,p1,p2,p3,⟨f,g1,g2,g3⟩,d⟩,a,b⟩;exact⟨a,b,c,d,p1,p2,p3,⟨e1,e2⟩,f,g1,g2,g3⟩
 rw[Zg k2,Zg k2]
 by_cases k3:l.kind=3∨l.kind=4
 ·rw[Zm k3,Zm k3,ZZ];simp only[Zu,ZaS,ZC]
  constructor
  ·rintro⟨a,b,c,d,e,f,g⟩;exact⟨⟨c,⟨d,f,e⟩,g⟩,a,b⟩
  ·rintro⟨⟨c,⟨d,f,e⟩,g⟩,a,b⟩;exact⟨a,b,c,d,e,f,g⟩
 rw[Zg k3,Zg k3]
 by_cases k5:l.kind=5∨l.kind=6
 ·rw[Zm k5,Zm k5,ZZ];unfold zci;simp only[Zu,ZaS,ZC]
  constructor
  ·rintro⟨a,b,⟨c1,c2,c3,c4⟩,d,e,f⟩;exact⟨⟨⟨d,e,c1,c2,c3,c4⟩,f⟩,a,b⟩
  ·rintro⟨⟨⟨d,e,c1,c2,c3,c4⟩,f⟩,a,b⟩;exact⟨a,b,⟨c1,c2,c3,c4⟩,d,e,f⟩
 rw[Zg k5,Zg k5]
 by_cases k7:l.kind=7
 ·rw[Zm k7,Zm k7,ZZ];unfold zci zi0;simp only[Zu,ZaS,ZC]
  constructor
  ·rintro⟨a,b,⟨c1,c2,c3,c4⟩,⟨d1,d2⟩,e,f⟩;exact⟨⟨d1,Ya,⟨e,c1,c2,c3,c4⟩,f⟩,a,b⟩
  ·rintro⟨⟨d1,d2,⟨e,c1,c2,c3,c4⟩,f⟩,a,b⟩;exact⟨a,b,⟨c1,c2,c3,c4⟩,⟨d1,Ya⟩,e,f⟩
 rw[Zg k7,Zg k7];simp
theorem zgs(x:Int)(W:World):Calls Tryz.prog 136 #[.int .i64 x,.int .i64 1,.int .i64 64] W fun e w'=>e=.returned (.bool (zc6 x))/\W=w':=by rw[<- zoX];exact zfd _ _ _ W
