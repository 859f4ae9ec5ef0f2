/-
  Contracts: ModJ, ModK, ModL, ModM, ModN, ModO, ModR, EvM, OwnRR, EvN, OpenE, LinB, LinC, LinD, LinK.
-/
import Derived.Test.YtfgmmghmmfmdgaaGreatO18
import Derived.Test.YtfgmmghmmfmdgaaGreatO19
import Derived.Test.YtfgmmghmmfmdgaaGreatO17
import Derived.Test.YtfgmmghmmfmdgaaGreatO0
set_option linter.all false
set_option maxRecDepth 100000
set_option maxHeartbeats 3200000
namespace Go.Proofs.YtfgmmghmmfmdgaaGreat
open Go.RowKit
open Go.Lib (hid)
variable {P:Prop} {W w1 w w0 w':World} {g p base n T M E j k B D:Nat} {p0 p1 p2 p3 p4 p5 p6 p7 p8 q0 q1 v u inp v':Value} {a b:Option Addr} {c xs:List Value} {input:List Int} {S:List (List Int)} {l:zac} {i:Int} {CL:List (List Value)} {L:List zac} {o:Obj} {Y:List (List zaf)}
theorem O7(h:P:=by unfold Hid;have:S.all zk=false:=YA;rw[<- HRd.out,this,Zbh];rfl):P:=h
theorem Ur(h:P:=by
 clear hv hu h1 h2 r1 r2 hin hcall hc hok hk
 go_enter Tryz.func84,Tryz.ntmps84
 go_upto_region 1 with fail
 have hT:=pbl w a input c b S d l b1 d1 b2 d2 122 44;generalize(w.alloc (.cells #[.slice a input.length c,.slice b S.length d] 122)).alloc (zbG l b1 d1 b2 d2 44)=W at *;have HT:=hid hT;have HB0:Hid (Below w.heap.size w W):=hT.bl;clear hT;obtain⟨x0,x1,xf,xlt⟩:=HT.out.a;obtain⟨y0,y1,y2,y3,y4,y5,y6,y7,y8,ylt⟩:=HT.out.b;have HFs:Hid (W.cell? ⟨bs,os,none⟩=some (.int .i64 s0)/\bs<W.heap.size):=⟨(HB0.out.cell (p:=⟨bs,os,none⟩) HCl.out).trans HC0.out,Zb HCl.out HB0.out.size⟩
 have xbl:Below W.heap.size W W.drew:=(Ze _ _).drew;have HC2:Hid (∀w',Below W.heap.size W w'->Calls Tryz.prog 126 #[.agg #[.slice a input.length c,.slice b S.length d]] w' fun e w''=>e=.returned (.slice (some ⟨bs,os,none⟩) cl ci)/\Below W.heap.size W w''):=
  fun w' hb=>(HCall.out w' (HB0.out.trans (hb.mono HB0.out.size))).mono fun e w'' ⟨h1,h2⟩=>⟨h1,hb.trans (h2.mono hb.size)⟩
 have HW2:=hid (fun w' (hb:Below W.heap.size W w')=>(HWin.out w' (HB0.out.trans (hb.mono HB0.out.size))).mono fun e w'' ⟨h1,h2⟩=>(⟨h1,hb.trans (h2.mono hb.size)⟩:_/\Below W.heap.size W w''));clear HWin HCall
 go_upto_region 8 with fail
 clear x0 x1 xf xlt y0 y1 y2 y3 y4 y5 y6 y7 y8 ylt
 go_region_held3 (fun w'=>w'.cell? ⟨w.heap.size,0,none⟩=some (.slice a input.length c)/\w'.cell? ⟨w.heap.size,1,none⟩=some (.slice b S.length d)/\w'.cell? ⟨w.heap.size+1,0,none⟩=some (.int .i64 l.kind)/\w'.cell? ⟨w.heap.size+1,1,none⟩=some (.int .i64 l.frm)/\w'.cell? ⟨w.heap.size+1,2,none⟩=some (.int .i64 l.out)/\w'.cell? ⟨w.heap.size+1,3,none⟩=some (.int .i64 l.kh)/\w'.cell? ⟨w.heap.size+1,4,none⟩=some (.int .i64 l.kw)/\w'.cell? ⟨w.heap.size+1,5,none⟩=some (.int .i64 l.stride)/\w'.cell? ⟨w.heap.size+1,6,none⟩=some (.int .i64 l.pad)/\w'.cell? ⟨w.heap.size+1,7,none⟩=some (.slice b1 l.weights.length d1)/\w'.cell? ⟨w.heap.size+1,8,none⟩=some (.slice b2 l.bias.length d2)/\w'.cell? ⟨bs,os,none⟩=some (.int .i64 s0))
  (first|exact zpj HT.out.b HT.out.a HFs.out.2 HFs.out.1 YS)
  (first
   | (go_at_call 126; refine (HC2.out _ ?hb).mono ?_
      case hb=>assumption
      rintro e w1 ⟨rfl,p3⟩)
   | (go_at_call 125; refine (HW2.out _ ?hb2).mono ?_
      case hb2=>assumption
      rintro e w1 ⟨⟨g,rfl,hI⟩,p3⟩))
 all_goals
  obtain⟨HI,HB6⟩:=hd2 hI (HB0.out.trans (‹Below W.heap.size W w1›.mono HB0.out.size));clear hI;go_wp2
  go_ret2
  exact⟨⟨_,_,rfl,HI.out⟩,HB6.out⟩
):P:=h
theorem UJ(h:P:=by
 ·cases e
  refine⟨hl,.inr ⟨g,0,rfl,(ZF.1 hg).1,fun j x hj=>?_⟩⟩
  obtain⟨p0,p1,p2,p3,h0,h1,h2,h3,h4⟩:=he j x hj;have k0:=ho.cells (g:=g) rfl _ _ h0;have k1:=ho.cells (g:=g) rfl _ _ h1;have k2:=ho.cells (g:=g) rfl _ _ h2;have k3:=ho.cells (g:=g) rfl _ _ h3;simp only[Zaq]at k0 k1 k2 k3;exact⟨p0,p1,p2,p3,k0,k1,k2,k3,h4⟩
):P:=h
theorem UQ(h:P:=by clear hv hu h1 h2 r1 r2 hin hcall hc hok hk;go_enter Tryz.func84,Tryz.ntmps84;go_upto_region 1 with fail;have hT:=pbl w a input c b S d l b1 d1 b2 d2 122 44;generalize(w.alloc (.cells #[.slice a input.length c,.slice b S.length d] 122)).alloc (zbG l b1 d1 b2 d2 44)=W at *;have HT:=hid hT;have HB0:Hid (Below w.heap.size w W):=hT.bl;clear hT;obtain⟨x0,x1,xf,xlt⟩:=HT.out.a;obtain⟨y0,y1,y2,y3,y4,y5,y6,y7,y8,ylt⟩:=HT.out.b;go_wp2_with fail;refine(HD.out W HB0.out).mono ?_;rintro e w1 ⟨⟨g,c',rfl,hI⟩,hb1⟩;have HB1:=htr HB0 hb1;have HI:=hid hI;clear hI hb1 x0 x1 xf xlt y0 y1 y2 y3 y4 y5 y6 y7 y8 ylt;go_wp2;go_ret2;exact⟨⟨_,_,rfl,HI.out⟩,HB1.out⟩):P:=h
theorem T5(h:P:=by refine wpQuiet_nil ?_;intro _ hw';obtain⟨nq,hw''⟩:=hw';subst hw'';obtain⟨HBN,HIN⟩:=hd2 (HB0.out.trans ((zF W nq).mono HB0.out.size)) (HIw.out.below (zF W nq));generalize ext W nq=w5 at *;go_wp2;go_ret2;exact⟨⟨_,_,rfl,HIN.out⟩,HBN.out⟩):P:=h
theorem TX(h:P:=by
 clear hT hbw;go_wp2
 refine Zp (zdY rfl _ _ _) rfl ?_
 rw[HF.out];exact⟨⟨av,cv,by simp only[HTl.out];rfl,HT.out.mono (fun b _ hb=>Zi HB1.out.size hb)⟩,HBw.out⟩
):P:=h
theorem Eg(h:P:=by go_wp2;go_ret2;exact zaI HF.out HB3.out):P:=h
theorem Ej(h:P:=by have t3:decide (¬ er=0)=true:=Kp;clear he;go_wp2;refine Zp (zdY rfl _ _ _) rfl ?_;exact zhJ HF.out (HB1.out.trans (HB2.out.mono HB1.out.size))):P:=h
theorem Ez(h:P:=by
 intro x hx
 rcases Zar.1 hx with h|h
 ·rw[Zbq h];exact⟨Ud,Ud⟩
 ·simp at h;subst h;exact HLe.out
):P:=h
theorem EG(h:P:=by have HF:Hid (RR=([],0,1)):=Kl;clear hvm;go_wp2;refine Zp (zdY rfl _ _ _) rfl ?_;exact zhJ HF.out HB1.out):P:=h
theorem Ic(h:P:=by obtain⟨an,ad,cn,cd,rfl,rfl,rfl,_⟩:=h.ex;simp at hu;rcases hu with rfl|rfl|rfl|rfl<;>exact⟨rfl,rfl⟩):P:=h
theorem It(h:P:=by rename_i x hx;rw[hx]at h;obtain⟨b,e,l,k1,k2⟩:=h;exact⟨b,e,l,k1.below hb,k2.below hb k1.lt⟩):P:=h
theorem Kq(h:P:=by simp[results,Tryz.results135,go_sem,r0,r1,r2,r3]):P:=h
theorem zkI(s:List Int)(l:zac):(0<=(zay s l).1/\(zay s l).1<=16600)/\(0<=(zay s l).2.1/\(zay s l).2.1<=16600):=by
 unfold zay
 cases h:zbt s l.kh l.kw l.stride l.pad with
 | true=>rw[zc0 h];simp
 | false=>
  cases h2:zaZ s l.kh l.kw l.pad with
  | true=>rw[zb8 h h2];simp
  | false=>
   by_cases h3:262144<(zeO s l.kh l.kw l.stride l.pad).total
   ·rw[zdy h h2 h3];simp
   ·rw[zeH h h2 h3];obtain⟨q,hq,e,_⟩:=zgg h h2;rw[e];have:=hq.r2;have:=hq.q2;simp only;omega
theorem zeA(w:World)(x y z:Int)(T:Nat)(hx:I64 x)(hy:I64 y)(hz:I64 z):zah (w.alloc (.cells #[.int .i64 x,.int .i64 y,.int .i64 z] T)) Any (some ⟨w.heap.size,0,none⟩) [x,y,z]:=by
 refine⟨?_,Yc,.inr ⟨w.heap.size,0,rfl,trivial,Yc,fun j d hj=>?_⟩⟩
 ·intro u hu;simp at hu
  rcases hu with rfl|rfl|rfl<;>assumption
 ·rw[ZR,World.cell?_alloc_at _ _ _ _ rfl]
  match j,hj with
  | 0,hj=>simp at hj;subst hj;rfl
  | 1,hj=>simp at hj;subst hj;rfl
  | 2,hj=>simp at hj;subst hj;rfl
theorem zo9(hg:zow W g p0 p1 p2 p3 p4 p5 p6 p7 p8)(hh:za1 W p q0 q1)(hb:Below W.heap.size W w1):
  w1.cell? ⟨p,0,none⟩=some q0/\w1.cell? ⟨p,1,none⟩=some q1/\w1.cell? ⟨g,3,none⟩=some p3/\w1.cell? ⟨g,4,none⟩=some p4/\w1.cell? ⟨g,5,none⟩=some p5/\w1.cell? ⟨g,6,none⟩=some p6:=
 ⟨(hb.cell hh.lt).trans hh.c0,(hb.cell hh.lt).trans hh.c1,(hb.cell hg.lt).trans hg.c3,(hb.cell hg.lt).trans hg.c4,(hb.cell hg.lt).trans hg.c5,(hb.cell hg.lt).trans hg.c6⟩
theorem zgf{w:World}{v u:Value}{input:List Int}{S:List (List Int)}{l:zac}(hv:zcw w v input S)(hu:zcV w u l)(ch:Int)(hch:I64 ch):
  Calls Tryz.prog 125 #[v,u,.int .i64 ch] w fun e w'=>(∃g,e=.returned (.tuple #[.slice (some ⟨g,0,none⟩) 3 3,.bool (decide ((zay (zh input S) l).2.2=0))])/\zah w' Any (some ⟨g,0,none⟩) [ch,(zay (zh input S) l).1,(zay (zh input S) l).2.1])/\Below w.heap.size w w':=by
 obtain⟨ai,ci,hin,hcall⟩:=pIn hv;obtain⟨a,b,c,d,rfl,h1,h2⟩:=hv.ex;obtain⟨b1,b2,d1,d2,rfl,r1,r2⟩:=hu.ex;have q1:=h1.len;have q2:=h2.len;have q3:=r1.len;have q4:=r2.len;obtain⟨HIn,HCall⟩:=hd2 hin hcall;have hbd:=zkI (zh input S) l;have hwin:Hid (∀(W w':World),Below w.heap.size w W->Below W.heap.size W w'->Calls Tryz.prog 131 #[.slice ai (zh input S).length ci,.int .i64 l.kh,.int .i64 l.kw,.int .i64 l.stride,.int .i64 l.pad] w' fun e w''=>
   (∃x y z,e=.returned (.tuple #[.slice x y z,.int .i64 (zay (zh input S) l).1,.int .i64 (zay (zh input S) l).2.1,.int .i64 (zay (zh input S) l).2.2]))/\Below W.heap.size W w''):=by
  intro W w' hW hb
  refine(zuc ci l.kh l.kw l.stride l.pad (HIn.out.below (hW.trans (hb.mono hW.size)))).mono ?_
  rintro e w'' ⟨x,z,rfl,_,p⟩;exact⟨⟨x,_,z,rfl⟩,hb.trans (p.mono hb.size)⟩
 generalize zay (zh input S) l=Z at *;obtain⟨z1,z2,z3⟩:=Z;simp only at hbd⊢;obtain⟨⟨y1,y2⟩,y3,y4⟩:=hbd;have HI3:Hid (∀W:World,zah (W.alloc (.cells #[.int .i64 ch,.int .i64 z1,.int .i64 z2] 3)) Any (some ⟨W.heap.size,0,none⟩) [ch,z1,z2]):=fun W=>zeA W ch z1 z2 _ hch ⟨Ya,Ya⟩ ⟨Ya,Ya⟩
 generalize hR:decide (z3=0)=R;have hR2:(z3==0)=R:=hR;clear hv hu h1 h2 r1 r2 hin hcall hch hR y1 y2 y3 y4
 go_enter Tryz.func125,Tryz.ntmps125
 go_upto_region 1 with fail
 have hT:=pbl w a input c b S d l b1 d1 b2 d2 122 44;generalize(w.alloc (.cells #[.slice a input.length c,.slice b S.length d] 122)).alloc (zbG l b1 d1 b2 d2 44)=W at *;have HT:=hid hT;have xbl:Below W.heap.size W W.drew:=(Ze _ _).drew;have HC2:Hid (∀w',Below W.heap.size W w'->Calls Tryz.prog 126 #[.agg #[.slice a input.length c,.slice b S.length d]] w' fun e w''=>e=.returned (.slice ai (zh input S).length ci)/\Below W.heap.size W w''):=
  fun w' hb=>(HCall.out w' (HT.out.bl.trans (hb.mono Xg))).mono fun e w'' ⟨h1,h2⟩=>⟨h1,hb.trans (h2.mono hb.size)⟩
 have HW2:=hid (hwin.out W · hT.bl);clear hT HCall hwin HIn
 go_region_held3 (fun w'=>w'.cell? ⟨w.heap.size,0,none⟩=some (.slice a input.length c)/\w'.cell? ⟨w.heap.size,1,none⟩=some (.slice b S.length d)/\w'.cell? ⟨w.heap.size+1,3,none⟩=some (.int .i64 l.kh)/\w'.cell? ⟨w.heap.size+1,4,none⟩=some (.int .i64 l.kw)/\w'.cell? ⟨w.heap.size+1,5,none⟩=some (.int .i64 l.stride)/\w'.cell? ⟨w.heap.size+1,6,none⟩=some (.int .i64 l.pad))
  (first|exact zo9 HT.out.b HT.out.a YS)
  (first
   | (go_at_call 126; refine (HC2.out _ ?hb).mono ?_
      case hb=>assumption
      rintro e w1 ⟨rfl,p3⟩)
   | (go_at_call 131; refine (HW2.out _ ?hb2).mono ?_
      case hb2=>assumption
      rintro e w1 ⟨⟨x1,x2,x3,rfl⟩,p3⟩))
 all_goals
  have hbl:= ‹Below W.heap.size W w1›;have HE:=hid hbl;have hI:=HI3.out w1;have HI:=hid hI;clear hI hbl;go_wp2
  go_ret2
  exact⟨⟨_,rfl,HI.out⟩,(HT.out.bl.trans (HE.out.mono Xg)).alloc (by have:=HT.out.b.lt;have:=HE.out.size;omega) _⟩
theorem zls{a s b c:Int}(a1:1<=a)(a2:a<=16384)(s1:1<=s)(s2:s<=16384)(b1:1<=b)(b2:b<=64)(c1:1<=c)(c2:c<=64):(1<=a*s/\a*s<=268435456)/\(1<=a*s*b/\a*s*b<=17179869184)/\1<=a*s*b*c/\a*s*b*c<=1099511627776:=by
 have h1:=zfk a1 a2 s1 s2;have h3:1*1<=a*s*b:=ZaN h1.1 b1 Ya Ya;have h4:a*s*b<=268435456*64:=ZaN h1.2 b2 Ya Ya;have h5:1*1<=a*s*b*c:=ZaN Ya c1 Ya Ya;have h6:a*s*b*c<=17179869184*64:=ZaN Ya c2 Ya Ya;omega
theorem zs8{w:World}{v u:Value}{input:List Int}{S:List (List Int)}{l:zac}(hv:zcw w v input S)(hu:zcV w u l)(ho1:1<=l.out)(ho2:l.out<=16384)(hk1:1<=l.kh)(hk2:l.kh<=64)(hk3:1<=l.kw)(hk4:l.kw<=64)(hc:zk (zh input S)=true):
  Calls Tryz.prog 124 #[v,u] w fun e w'=>(∃a' c',e=.returned (.tuple #[.slice a' 3 c',.bool (decide ((zay (zh input S) l).2.2=0) && decide ((l.weights.length:Int)=l.out*(zh input S).getD 0 0*l.kh*l.kw))])/\zah w' Any a' [l.out,(zay (zh input S) l).1,(zay (zh input S) l).2.1])/\Below w.heap.size w w':=by
 obtain⟨HPV,HLV⟩:=hd2 hv hu;obtain⟨ai,ci,hin,hcall⟩:=pIn hv;obtain⟨a,b,c,d,rfl,h1,h2⟩:=hv.ex;obtain⟨b1,b2,d1,d2,rfl,r1,r2⟩:=hu.ex;have q1:=h1.len;have q2:=h2.len;have q3:=r1.len;have q4:=r2.len;obtain⟨HIn,HCall,HA1,HA2⟩:=hd4 hin hcall h1 h2;have hcal2:=HCall.out;have hlen:=(zb0 hc).1;obtain⟨bs,os,s0,rfl,cs0,hx0,_,hbs,_,_,_⟩:=hin.pick2 (k:=0) Ya;have hs0:(zh input S).getD 0 0=s0:=by rw[Zd,hx0];rfl
 obtain⟨s1,s2⟩:1<=s0/\s0<=16384:=zdh hc _ (Zq hx0);obtain⟨⟨m1,m2⟩,⟨m3,m4⟩,m5,m6⟩:=zls ho1 ho2 s1 s2 hk1 hk2 hk3 hk4;rw[ZU]at cs0;obtain⟨HC0,HCl⟩:=hd2 cs0 hbs;rw[hs0];have hwin:=zgf hv hu l.out ⟨Ya,Ya⟩;have HWin:=hid (fun W (hb:Below w.heap.size w W)=>zgf (hv.below hb) (hu.below hb) l.out ⟨Ya,Ya⟩);generalize decide ((zay (zh input S) l).2.2=0)=OK at *;generalize(zay (zh input S) l).1=zR at *;generalize(zay (zh input S) l).2.1=zC at *;generalize hR:(OK && decide ((l.weights.length:Int)=l.out*s0*l.kh*l.kw))=RR;have HR:=hid hR;have hpos:0<(zh input S).length:=hlen;generalize hcl:(zh input S).length=cl at *;clear hwin hx0 cs0 hs0 hbs hc hR hlen hcl;clear hv hu h1 h2 r1 r2 hin hcall
 go_enter Tryz.func124,Tryz.ntmps124
 go_upto_region 1 with fail
 have hT:=pbl w a input c b S d l b1 d1 b2 d2 122 44;generalize(w.alloc (.cells #[.slice a input.length c,.slice b S.length d] 122)).alloc (zbG l b1 d1 b2 d2 44)=W at *;have HT:=hid hT;have HB0:Hid (Below w.heap.size w W):=hT.bl;have HCe:=hid (fun w' (hb:Below W.heap.size W w')=>hcal2 w' (hT.bl.trans (hb.mono hT.bl.size)));clear hT hcal2;obtain⟨x0,x1,xf,xlt⟩:=HT.out.a;obtain⟨y0,y1,y2,y3,y4,y5,y6,y7,y8,ylt⟩:=HT.out.b
 go_wp2_with fail
 refine(HWin.out W HB0.out).mono ?_
 rintro e w1 ⟨⟨g,rfl,hI⟩,hb1⟩;obtain⟨HI,HB1⟩:=hd2 hI hb1;have f0:=zz ((hb1.cell (p:=⟨w.heap.size,0,none⟩) xlt).trans x0) (Zb xlt hb1.size);have f1:=zz ((hb1.cell (p:=⟨w.heap.size,1,none⟩) xlt).trans x1) (Zb xlt hb1.size);have f2:=zz ((hb1.cell (p:=⟨w.heap.size+1,2,none⟩) ylt).trans y2) (Zb ylt hb1.size);have f3:=zz ((hb1.cell (p:=⟨w.heap.size+1,3,none⟩) ylt).trans y3) (Zb ylt hb1.size);have f4:=zz ((hb1.cell (p:=⟨w.heap.size+1,4,none⟩) ylt).trans y4) (Zb ylt hb1.size);have f7:=zz ((hb1.cell (p:=⟨w.heap.size+1,7,none⟩) ylt).trans y7) (Zb ylt hb1.size);have hbw:=HB0.out.trans (hb1.mono HB0.out.size);have fs:=zz ((hbw.cell (p:=⟨bs,os,none⟩) HCl.out).trans HC0.out) (Zb HCl.out hbw.size);obtain⟨HBw,HCx⟩:=hd2 hbw (fun e=>HCe.out (ext w1 e) (hb1.trans ((zF w1 e).mono hb1.size)));clear x0 x1 xf xlt y0 y1 y2 y3 y4 y5 y6 y7 y8 ylt hb1 hI hbw
 cases OK with
 | false=>
  have hRF:Hid (RR=false):=by unfold Hid;rw[<- HR.out];rfl
  clear HCx;go_wp2
  refine zx Yb Yb ?_
  repeat (go_big_quiet_step (fail))
  refine wpQuiet_nil ?_
  intro _ hw';obtain⟨nq,hw''⟩:=hw';subst hw'';obtain⟨HBN,HIN⟩:=hd2 (HBw.out.trans ((zF w1 nq).mono HBw.out.size)) (HI.out.below (zF w1 nq));generalize ext w1 nq=w5 at *;go_wp2
  go_ret2
  rw[hRF.out];exact⟨⟨_,_,rfl,HIN.out⟩,HBN.out⟩
 | true=>
  have hRT:Hid (RR=decide ((l.weights.length:Int)=l.out*s0*l.kh*l.kw)):=by unfold Hid;rw[<- HR.out];rfl
  obtain⟨p1,hp1⟩:∃p1,l.out*s0=p1:=⟨_,rfl⟩
  obtain⟨p2,hp2⟩:∃p2,p1*l.kh=p2:=⟨_,rfl⟩
  obtain⟨p3,hp3⟩:∃p3,p2*l.kw=p3:=⟨_,rfl⟩
  rw[hp1]at m1 m2 m3 m4 m5 m6;rw[hp2]at m3 m4 m5 m6;rw[hp3]at m5 m6;have t1:IntKind.i64.wrap (l.out*s0)=p1:=Jx;have t2:IntKind.i64.wrap (p1*l.kh)=p2:=Jy;have t3:IntKind.i64.wrap (p2*l.kw)=p3:=Jz;have hR3:((l.weights.length:Int)==p3)=RR:=by rw[hRT.out,hp1,hp2,hp3];rfl
  clear hp1 hp2 hp3 m1 m2 m3 m4 m5 m6;go_wp2
  refine zx Yb Yb ?_
  repeat (go_big_quiet_step (first|(go_at_call 126;exact Calls.ext_of (HCx.out _))))
  refine wpQuiet_nil ?_
  intro _ hw';obtain⟨nq,hw''⟩:=hw';subst hw'';obtain⟨HBN,HIN⟩:=hd2 (HBw.out.trans ((zF w1 nq).mono HBw.out.size)) (HI.out.below (zF w1 nq));generalize ext w1 nq=w5 at *;go_wp2
  go_ret2
  exact⟨⟨_,_,rfl,HIN.out⟩,HBN.out⟩
theorem zut(hv:zcw w v input S)(hu:zcV w u l)(hf2:l.frm<(S.length:Int)):
  Calls Tryz.prog 127 #[v,u] w fun e w'=>(∃a' c',e=.returned (.tuple #[.slice a' (zh input S).length c',.bool (zb9 (if 0<=l.frm then S.getD l.frm.toNat []else input) (zh input S))])/\zah w' Any a' (zh input S))/\Below w.heap.size w w':=by
 obtain⟨HPV,HLV⟩:=hd2 hv hu;obtain⟨ai,ci,hin,hcall⟩:=pIn hv;obtain⟨a,b,c,d,rfl,h1,h2⟩:=hv.ex;obtain⟨b1,b2,d1,d2,rfl,r1,r2⟩:=hu.ex;have q1:=h1.len;have q2:=h2.len;have q3:=r1.len;have q4:=r2.len;obtain⟨HIn,HCall,HA1,HA2⟩:=hd4 hin hcall h1 h2;have hcal2:=HCall.out;generalize hR:zb9 (if 0<=l.frm then S.getD l.frm.toNat []else input) (zh input S)=RR;have HR:=hid hR;clear hR;clear hv hu h1 h2 r1 r2 hin hcall
 go_enter Tryz.func127,Tryz.ntmps127
 go_upto_region 1 with fail
 have hT:=pbl w a input c b S d l b1 d1 b2 d2 122 44;generalize(w.alloc (.cells #[.slice a input.length c,.slice b S.length d] 122)).alloc (zbG l b1 d1 b2 d2 44)=W at *;have HT:=hid hT;have HB0:Hid (Below w.heap.size w W):=hT.bl;have HCe:=hid (fun w' (hb:Below W.heap.size W w')=>hcal2 w' (hT.bl.trans (hb.mono hT.bl.size)));clear hT hcal2;obtain⟨x0,x1,xf,xlt⟩:=HT.out.a;obtain⟨y0,y1,y2,y3,y4,y5,y6,y7,y8,ylt⟩:=HT.out.b;clear y2 y3 y4 y5 y6 y7 y8 y0
 by_cases hf:0<=l.frm
 ·obtain⟨k,hk⟩:∃k:Nat,l.frm=(k:Int):=⟨l.frm.toNat,Ya⟩
  have hkl:k<S.length:=Ya;obtain⟨bb,off,o,aj,cj,rfl,hcell,hl,hcj,hI,hbb,_⟩:=(HA2.out.below HB0.out).pickc hkl;have HEq:=hid (fun W' (hb:Below W.heap.size W W')=>zqj cj ci (hI.below hb) (HIn.out.below (HB0.out.trans (hb.mono HB0.out.size))));have hs:zb9 o (zh input S)=RR:=by
   rw[<- HR.out,Zm hf,hk,ZaH,Zd,hl];rfl
  rw[hs]at HEq;rw[hk]at y1;have qo:=hI.len;have f0:=zz x0 xlt;have f1:=zz x1 xlt;obtain⟨HCx,HEx,HIw⟩:=hd3 (fun e=>HCe.out (ext W e) (zF W e)) (fun e=>HEq.out (ext W e) (zF W e)) (HIn.out.below HB0.out);clear hI hl hs HEq hk hf hf2 HR;go_wp2;clear x0 x1 xf xlt y1 ylt hcell
  refine zx Yb Yb ?_
  repeat (go_big_quiet_step (first|(go_at_call 126;exact Calls.ext_of (HCx.out _))|(go_at_call 152;exact Calls.ext_of (HEx.out _))))
  exact T5
 ·have HEq:=hid (fun W' (hb:Below W.heap.size W W')=>zqj c ci (HA1.out.below (HB0.out.trans (hb.mono HB0.out.size))) (HIn.out.below (HB0.out.trans (hb.mono HB0.out.size))));have hs:zb9 input (zh input S)=RR:=by rw[<- HR.out,Zg hf]
  rw[hs]at HEq;have f0:=zz x0 xlt;have f1:=zz x1 xlt;obtain⟨HCx,HEx,HIw⟩:=hd3 (fun e=>HCe.out (ext W e) (zF W e)) (fun e=>HEq.out (ext W e) (zF W e)) (HIn.out.below HB0.out);clear hs HEq hf2 HR;go_wp2;clear x0 x1 xf xlt y1 ylt
  refine zx Yb Yb ?_
  repeat (go_big_quiet_step (first|(go_at_call 126;exact Calls.ext_of (HCx.out _))|(go_at_call 152;exact Calls.ext_of (HEx.out _))))
  exact T5
theorem zmh(h:zai l i=true):1<=l.kind/\l.kind<=7:=by
 by_cases hk:1<=l.kind/\l.kind<=7
 ·exact hk
 ·unfold zai at h;rw[zft l i hk]at h;cases h
theorem zqr(h:zai l i=true)(hk:l.kind=1):1<=l.out/\l.out<=16384:=by
 unfold zai zcT at h;rw[Zm hk]at h;simp only[Zu]at h;have:=h.1.1;unfold zhx at this
 simpa using this
theorem zqP(h:zai l i=true)(hk:l.kind=2):(1<=l.out/\l.out<=16384)/\(1<=l.kh/\l.kh<=64)/\(1<=l.kw/\l.kw<=64):=by
 unfold zai zcT at h;rw[Zg Ya,Zm hk]at h;simp only[Zu]at h;have h1:=h.1.1;have h2:=h.1.2.1;unfold zhx at h1;unfold zdo zc6 at h2;simp at h1 h2;exact⟨h1,h2.1,h2.2.1⟩
theorem zlq(h:zai l i=true)(hk:l.kind=7):l.frm<i:=by
 unfold zai zcT at h;rw[Zg Ya,Zg Ya,Zg Ya,Zg Ya,Zm hk]at h;simp only[Zu,ZC]at h;exact h.1.2.1
theorem ze6{w:World}{g:Nat}{x:Int}(hx:I64 x)(hc:w.cell? ⟨g,0,none⟩=some (.int .i64 x))(hg:g<w.heap.size):zah w Any (some ⟨g,0,none⟩) [x]:=by
 refine⟨?_,Yc,.inr ⟨g,0,rfl,trivial,hg,fun j d hj=>?_⟩⟩
 ·intro u hu;simp at hu;subst hu;exact hx
 ·match j,hj with
  | 0,hj=>simp at hj;subst hj;exact hc
theorem zpj{bs os:Nat}{s:Value}(hg:zow W g p0 p1 p2 p3 p4 p5 p6 p7 p8)(hh:za1 W p q0 q1)(hbs:bs<W.heap.size)(hs:W.cell? ⟨bs,os,none⟩=some s)(hb:Below W.heap.size W w1):
  w1.cell? ⟨p,0,none⟩=some q0/\w1.cell? ⟨p,1,none⟩=some q1/\w1.cell? ⟨g,0,none⟩=some p0/\w1.cell? ⟨g,1,none⟩=some p1/\w1.cell? ⟨g,2,none⟩=some p2/\w1.cell? ⟨g,3,none⟩=some p3/\w1.cell? ⟨g,4,none⟩=some p4/\w1.cell? ⟨g,5,none⟩=some p5/\w1.cell? ⟨g,6,none⟩=some p6/\w1.cell? ⟨g,7,none⟩=some p7/\w1.cell? ⟨g,8,none⟩=some p8/\w1.cell? ⟨bs,os,none⟩=some s:=by
 have h:=hg.below hb;exact⟨(hb.cell hh.lt).trans hh.c0,(hb.cell hh.lt).trans hh.c1,h.c0,h.c1,h.c2,h.c3,h.c4,h.c5,h.c6,h.c7,h.c8,(hb.cell hbs).trans hs⟩
theorem ztC(hv:zcw w v input S)(hu:zcV w u l)(hok:zai l S.length=true)(hc:zk (zh input S)=true)(hk:l.kind=1):
  Calls Tryz.prog 84 #[v,u] w fun e w'=>(∃a' c',e=.returned (.tuple #[.slice a' (za9 input S l).1.length c',.bool (za9 input S l).2])/\zah w' Any a' (za9 input S l).1)/\Below w.heap.size w w':=by
 obtain⟨HPV,HLV⟩:=hd2 hv hu;obtain⟨ai,ci,hin,hcall⟩:=pIn hv;obtain⟨a,b,c,d,rfl,h1,h2⟩:=hv.ex;obtain⟨b1,b2,d1,d2,rfl,r1,r2⟩:=hu.ex;have q1:=h1.len;have q2:=h2.len;have q3:=r1.len;have q4:=r2.len;have q5:=hin.len;obtain⟨HIn,HCall,HC,HOK⟩:=hd4 hin hcall hc hok;have hraw:za9 input S l=([l.out],decide ((l.weights.length:Int)=l.out*zt (zh input S))):=by unfold za9;rw[Zm hk]
 obtain⟨o1,o2⟩:=zqr hok hk;have HD:=hid (fun W (hb:Below w.heap.size w W)=>zsM (hv.below hb) (hu.below hb) o1 o2 hc);rw[hraw];generalize decide ((l.weights.length:Int)=l.out*zt (zh input S))=R at *;clear hraw HIn HCall;have k1:(l.kind==1)=true:=Yq;clear hv hu h1 h2 r1 r2 hin hcall hc hok hk
 go_enter Tryz.func84,Tryz.ntmps84
 go_upto_region 1 with fail
 have hT:=pbl w a input c b S d l b1 d1 b2 d2 122 44;generalize(w.alloc (.cells #[.slice a input.length c,.slice b S.length d] 122)).alloc (zbG l b1 d1 b2 d2 44)=W at *;have HT:=hid hT;have HB0:Hid (Below w.heap.size w W):=hT.bl;clear hT;obtain⟨x0,x1,xf,xlt⟩:=HT.out.a;obtain⟨y0,y1,y2,y3,y4,y5,y6,y7,y8,ylt⟩:=HT.out.b
 go_wp2_with fail
 refine(HD.out W HB0.out).mono ?_
 rintro e w1 ⟨⟨g,rfl,hcg,hlg⟩,hb1⟩;have HB1:=htr HB0 hb1;have HI:=hid (ze6 ⟨Ya,Ya⟩ hcg hlg);clear hcg hlg hb1 x0 x1 xf xlt y0 y1 y2 y3 y4 y5 y6 y7 y8 ylt;go_wp2
 go_ret2
 exact⟨⟨_,_,rfl,HI.out⟩,HB1.out⟩
theorem ztj(hv:zcw w v input S)(hu:zcV w u l)(hok:zai l S.length=true)(hc:zk (zh input S)=true)(hk:l.kind=2):
  Calls Tryz.prog 84 #[v,u] w fun e w'=>(∃a' c',e=.returned (.tuple #[.slice a' (za9 input S l).1.length c',.bool (za9 input S l).2])/\zah w' Any a' (za9 input S l).1)/\Below w.heap.size w w':=by
 obtain⟨HPV,HLV⟩:=hd2 hv hu;obtain⟨ai,ci,hin,hcall⟩:=pIn hv;obtain⟨a,b,c,d,rfl,h1,h2⟩:=hv.ex;obtain⟨b1,b2,d1,d2,rfl,r1,r2⟩:=hu.ex;have q1:=h1.len;have q2:=h2.len;have q3:=r1.len;have q4:=r2.len;have q5:=hin.len;obtain⟨HIn,HCall,HC,HOK⟩:=hd4 hin hcall hc hok;have hraw:za9 input S l=([l.out,(zay (zh input S) l).1,(zay (zh input S) l).2.1],decide ((zay (zh input S) l).2.2=0) && decide ((l.weights.length:Int)=l.out*(zh input S).getD 0 0*l.kh*l.kw)):=by unfold za9;rw[Zg Ya,Zm hk]
 obtain⟨⟨o1,o2⟩,⟨g1,g2⟩,g3,g4⟩:=zqP hok hk;have HD:=hid (fun W (hb:Below w.heap.size w W)=>zs8 (hv.below hb) (hu.below hb) o1 o2 g1 g2 g3 g4 hc);rw[hraw];generalize(decide ((zay (zh input S) l).2.2=0) && decide ((l.weights.length:Int)=l.out*(zh input S).getD 0 0*l.kh*l.kw))=R at *;generalize(zay (zh input S) l).1=zR at *;generalize(zay (zh input S) l).2.1=zC at *;clear hraw HIn HCall;have k1:(l.kind==1)=false:=bn0 Ya;have k2:(l.kind==2)=true:=Yq;exact UQ
theorem ztA(hv:zcw w v input S)(hu:zcV w u l)(hok:zai l S.length=true)(hc:zk (zh input S)=true)(hk:l.kind=7):
  Calls Tryz.prog 84 #[v,u] w fun e w'=>(∃a' c',e=.returned (.tuple #[.slice a' (za9 input S l).1.length c',.bool (za9 input S l).2])/\zah w' Any a' (za9 input S l).1)/\Below w.heap.size w w':=by
 obtain⟨HPV,HLV⟩:=hd2 hv hu;obtain⟨ai,ci,hin,hcall⟩:=pIn hv;obtain⟨a,b,c,d,rfl,h1,h2⟩:=hv.ex;obtain⟨b1,b2,d1,d2,rfl,r1,r2⟩:=hu.ex;have q1:=h1.len;have q2:=h2.len;have q3:=r1.len;have q4:=r2.len;have q5:=hin.len;obtain⟨HIn,HCall,HC,HOK⟩:=hd4 hin hcall hc hok;have hraw:za9 input S l=(zh input S,zb9 (if 0<=l.frm then S.getD l.frm.toNat []else input) (zh input S)):=YJ;have o1:=zlq hok hk;have HD:=hid (fun W (hb:Below w.heap.size w W)=>zut (hv.below hb) (hu.below hb) o1);rw[hraw];generalize zb9 (if 0<=l.frm then S.getD l.frm.toNat []else input) (zh input S)=R at *;clear hraw HIn HCall o1;have k1:(l.kind==1)=false:=bn0 Ya;have k2:(l.kind==2)=false:=bn0 Ya;have k3:(l.kind==3)=false:=bn0 Ya;have k4:(l.kind==4)=false:=bn0 Ya;have k6:(l.kind==6)=false:=bn0 Ya;have k7:(l.kind==7)=true:=Yq;exact UQ
theorem zs7(hv:zcw w v input S)(hu:zcV w u l)(hok:zai l S.length=true)(hc:zk (zh input S)=true)(hk:l.kind=5):
  Calls Tryz.prog 84 #[v,u] w fun e w'=>(∃a' c',e=.returned (.tuple #[.slice a' (za9 input S l).1.length c',.bool (za9 input S l).2])/\zah w' Any a' (za9 input S l).1)/\Below w.heap.size w w':=by
 obtain⟨HPV,HLV⟩:=hd2 hv hu;obtain⟨ai,ci,hin,hcall⟩:=pIn hv;obtain⟨a,b,c,d,rfl,h1,h2⟩:=hv.ex;obtain⟨b1,b2,d1,d2,rfl,r1,r2⟩:=hu.ex;have q1:=h1.len;have q2:=h2.len;have q3:=r1.len;have q4:=r2.len;have q5:=hin.len;obtain⟨HIn,HCall,HC,HOK⟩:=hd4 hin hcall hc hok;have hraw:za9 input S l=(zh input S,true):=YC;rw[hraw];clear hraw;have k1:(l.kind==1)=false:=bn0 Ya;have k2:(l.kind==2)=false:=bn0 Ya;have k3:(l.kind==3)=false:=bn0 Ya;have k4:(l.kind==4)=false:=bn0 Ya;have k6:(l.kind==6)=false:=bn0 Ya;have k7:(l.kind==7)=false:=bn0 Ya;clear hv hu h1 h2 r1 r2 hin hcall hc hok hk
 go_enter Tryz.func84,Tryz.ntmps84
 go_upto_region 1 with fail
 have hT:=pbl w a input c b S d l b1 d1 b2 d2 122 44;generalize(w.alloc (.cells #[.slice a input.length c,.slice b S.length d] 122)).alloc (zbG l b1 d1 b2 d2 44)=W at *;have HT:=hid hT;have HB0:Hid (Below w.heap.size w W):=hT.bl;clear hT;obtain⟨x0,x1,xf,xlt⟩:=HT.out.a;obtain⟨y0,y1,y2,y3,y4,y5,y6,y7,y8,ylt⟩:=HT.out.b
 go_wp2_with fail
 refine(HCall.out W HB0.out).mono ?_
 rintro e w1 ⟨rfl,hb1⟩;have HB1:=htr HB0 hb1;clear hb1 x0 x1 xf xlt y0 y1 y2 y3 y4 y5 y6 y7 y8 ylt;go_wp2
 go_ret2
 exact⟨⟨_,_,rfl,HIn.out.below HB1.out⟩,HB1.out⟩
theorem ztg(hv:zcw w v input S)(hu:zcV w u l)(hok:zai l S.length=true)(hc:zk (zh input S)=true)(hk:l.kind=6):
  Calls Tryz.prog 84 #[v,u] w fun e w'=>(∃a' c',e=.returned (.tuple #[.slice a' (za9 input S l).1.length c',.bool (za9 input S l).2])/\zah w' Any a' (za9 input S l).1)/\Below w.heap.size w w':=by
 obtain⟨HPV,HLV⟩:=hd2 hv hu;obtain⟨ai,ci,hin,hcall⟩:=pIn hv;obtain⟨a,b,c,d,rfl,h1,h2⟩:=hv.ex;obtain⟨b1,b2,d1,d2,rfl,r1,r2⟩:=hu.ex;have q1:=h1.len;have q2:=h2.len;have q3:=r1.len;have q4:=r2.len;have q5:=hin.len;obtain⟨HIn,HCall,HC,HOK⟩:=hd4 hin hcall hc hok;have hraw:za9 input S l=([zt (zh input S)],true):=by unfold za9;rw[Zg Ya,Zg Ya,Zg Ya,Zm hk]
 obtain⟨z1,z2⟩:=zae hc;have HZ:=hid (fun W (hI:zah W Any ai (zh input S))=>znR ci hI);rw[hraw];generalize zt (zh input S)=sz at *;clear hraw;have k1:(l.kind==1)=false:=bn0 Ya;have k2:(l.kind==2)=false:=bn0 Ya;have k3:(l.kind==3)=false:=bn0 Ya;have k4:(l.kind==4)=false:=bn0 Ya;have k6:(l.kind==6)=true:=Yq;clear hv hu h1 h2 r1 r2 hin hcall hc hok hk
 go_enter Tryz.func84,Tryz.ntmps84
 go_upto_region 1 with fail
 have hT:=pbl w a input c b S d l b1 d1 b2 d2 122 44;generalize(w.alloc (.cells #[.slice a input.length c,.slice b S.length d] 122)).alloc (zbG l b1 d1 b2 d2 44)=W at *;have HT:=hid hT;have HB0:Hid (Below w.heap.size w W):=hT.bl;clear hT;obtain⟨x0,x1,xf,xlt⟩:=HT.out.a;obtain⟨y0,y1,y2,y3,y4,y5,y6,y7,y8,ylt⟩:=HT.out.b
 go_wp2_with fail
 refine(HCall.out W HB0.out).mono ?_
 rintro e w1 ⟨rfl,hb1⟩;have HB1:=htr HB0 hb1;clear hb1 x0 x1 xf xlt y0 y1 y2 y3 y4 y5 y6 y7 y8 ylt
 go_wp2_with fail
 refine(HZ.out _ (HIn.out.below HB1.out)).mono ?_
 rintro e w2 ⟨rfl,rfl⟩;have HI:=hid (fun W:World=>ze6 (w:=W.alloc (.cells #[.int .i64 sz] 3)) (g:=W.heap.size) (x:=sz) ⟨Ya,Ya⟩ (by rw[World.cell?_alloc_at _ _ _ _ rfl];rfl) Yc);go_wp2
 go_ret2
 exact⟨⟨_,_,rfl,HI.out _⟩,HB1.out.alloc HB1.out.size _⟩
theorem ztW(hv:zcw w v input S)(hu:zcV w u l)(hok:zai l S.length=true)(hc:zk (zh input S)=true)(hk:l.kind=3):
  Calls Tryz.prog 84 #[v,u] w fun e w'=>(∃a' c',e=.returned (.tuple #[.slice a' (za9 input S l).1.length c',.bool (za9 input S l).2])/\zah w' Any a' (za9 input S l).1)/\Below w.heap.size w w':=by
 obtain⟨HPV,HLV⟩:=hd2 hv hu;obtain⟨ai,ci,hin,hcall⟩:=pIn hv;obtain⟨a,b,c,d,rfl,h1,h2⟩:=hv.ex;obtain⟨b1,b2,d1,d2,rfl,r1,r2⟩:=hu.ex;have q1:=h1.len;have q2:=h2.len;have q3:=r1.len;have q4:=r2.len;have q5:=hin.len;obtain⟨HIn,HCall,HC,HOK⟩:=hd4 hin hcall hc hok;have hraw:za9 input S l=([(zh input S).getD 0 0,(zay (zh input S) l).1,(zay (zh input S) l).2.1],decide ((zay (zh input S) l).2.2=0)):=Xs;have hlen:=(zb0 hc).1;obtain⟨bs,os,s0,rfl,cs0,hx0,_,hbs,_,s1,s2⟩:=hin.pick2 (k:=0) Ya;have hs0:(zh input S).getD 0 0=s0:=by rw[Zd,hx0];rfl
 rw[ZU]at cs0;obtain⟨HC0,HCl⟩:=hd2 cs0 hbs;rw[hraw,hs0];have HWin:=hid (fun W (hb:Below w.heap.size w W)=>zgf (hv.below hb) (hu.below hb) s0 ⟨s1,s2⟩);generalize decide ((zay (zh input S) l).2.2=0)=OK at *;generalize(zay (zh input S) l).1=zR at *;generalize(zay (zh input S) l).2.1=zC at *;have hpos:0<(zh input S).length:=hlen;generalize hcl:(zh input S).length=cl at *;clear hraw hx0 cs0 hs0 hbs hlen hcl;have k1:(l.kind==1)=false:=bn0 Ya;have k2:(l.kind==2)=false:=bn0 Ya;have k3:(l.kind==3)=true:=Yq;exact Ur
theorem ztz(hv:zcw w v input S)(hu:zcV w u l)(hok:zai l S.length=true)(hc:zk (zh input S)=true)(hk:l.kind=4):
  Calls Tryz.prog 84 #[v,u] w fun e w'=>(∃a' c',e=.returned (.tuple #[.slice a' (za9 input S l).1.length c',.bool (za9 input S l).2])/\zah w' Any a' (za9 input S l).1)/\Below w.heap.size w w':=by
 obtain⟨HPV,HLV⟩:=hd2 hv hu;obtain⟨ai,ci,hin,hcall⟩:=pIn hv;obtain⟨a,b,c,d,rfl,h1,h2⟩:=hv.ex;obtain⟨b1,b2,d1,d2,rfl,r1,r2⟩:=hu.ex;have q1:=h1.len;have q2:=h2.len;have q3:=r1.len;have q4:=r2.len;have q5:=hin.len;obtain⟨HIn,HCall,HC,HOK⟩:=hd4 hin hcall hc hok;have hraw:za9 input S l=([(zh input S).getD 0 0,(zay (zh input S) l).1,(zay (zh input S) l).2.1],decide ((zay (zh input S) l).2.2=0)):=Xs;have hlen:=(zb0 hc).1;obtain⟨bs,os,s0,rfl,cs0,hx0,_,hbs,_,s1,s2⟩:=hin.pick2 (k:=0) Ya;have hs0:(zh input S).getD 0 0=s0:=by rw[Zd,hx0];rfl
 rw[ZU]at cs0;obtain⟨HC0,HCl⟩:=hd2 cs0 hbs;rw[hraw,hs0];have HWin:=hid (fun W (hb:Below w.heap.size w W)=>zgf (hv.below hb) (hu.below hb) s0 ⟨s1,s2⟩);generalize decide ((zay (zh input S) l).2.2=0)=OK at *;generalize(zay (zh input S) l).1=zR at *;generalize(zay (zh input S) l).2.1=zC at *;have hpos:0<(zh input S).length:=hlen;generalize hcl:(zh input S).length=cl at *;clear hraw hx0 cs0 hs0 hbs hlen hcl;have k1:(l.kind==1)=false:=bn0 Ya;have k2:(l.kind==2)=false:=bn0 Ya;have k3:(l.kind==3)=false:=bn0 Ya;have k4:(l.kind==4)=true:=Yq;exact Ur
theorem zui(hv:zcw w v input S)(hu:zcV w u l)(hok:zai l S.length=true)(hc:zk (zh input S)=true):
  Calls Tryz.prog 84 #[v,u] w fun e w'=>(∃a' c',e=.returned (.tuple #[.slice a' (za9 input S l).1.length c',.bool (za9 input S l).2])/\zah w' Any a' (za9 input S l).1)/\Below w.heap.size w w':=by
 have hk:=zmh hok;have:l.kind=1∨l.kind=2∨l.kind=3∨l.kind=4∨l.kind=5∨l.kind=6∨l.kind=7:=Ya
 rcases this with h|h|h|h|h|h|h
 ·exact ztC hv hu hok hc h
 ·exact ztj hv hu hok hc h
 ·exact ztW hv hu hok hc h
 ·exact ztz hv hu hok hc h
 ·exact zs7 hv hu hok hc h
 ·exact ztg hv hu hok hc h
 ·exact ztA hv hu hok hc h
theorem Tryz.infoLay:(Tryz.prog.info? 44).map (fun i=>(i.zero,i.size,i.bytes))=some (some (.agg #[.int .i64 0,.int .i64 0,.int .i64 0,.int .i64 0,.int .i64 0,.int .i64 0,.int .i64 0,.slice none 0 0,.slice none 0 0]),9,104):=Yb
def zer(l:zac)(a1 a2:Option Addr)(c1 c2:Nat):List Value:=[.int .i64 l.kind,.int .i64 l.frm,.int .i64 l.out,.int .i64 l.kh,.int .i64 l.kw,.int .i64 l.stride,.int .i64 l.pad,.slice a1 l.weights.length c1,.slice a2 l.bias.length c2]
theorem ztM:∀{CL:List (List Value)} {j i:Nat} {c:List Value} {u:Value},(∀c∈CL,c.length=9)->CL[j]? =some c->c[i]? =some u->CL.flatten[j*9+i]? =some u:=by
 intro CL
 induction CL with
 | nil=>intro j i c u _ h _;simp at h
 | cons d r ih=>
  intro j i c u h9 hj hi;have hd:=h9 d Yc;rw[List.flatten_cons]
  cases j with
  | zero=>
   simp at hj;subst hj;have hlt:=(Zr.1 hi).1;rw[Zbe,ZR,Zz Ya];exact hi
  | succ j=>
   rw[ZI (by rw[hd];omega),hd,show(j+1)*9+i-9=j*9+i from Ya];exact ih (fun c hc=>h9 c (by simp[hc])) Uf hi
theorem zll(hown:w.ownsRow base T 9 v n CL.flatten)(hn:n=L.length)(hn2:n<=1000000)(hCL:CL.length=n)
 (hrow:∀(j:Nat) (c:List Value) (l:zac),CL[j]? =some c->L[j]? =some l->∃a1 a2 c1 c2,c=zer l a1 a2 c1 c2/\zm w a1 l.weights/\zm w a2 l.bias)(h9:∀c∈CL,c.length=9):
  ∃a cap,v=.slice a L.length cap/\zaK w a L:=by
 subst hn
 rcases hown.2 with⟨rfl,h0⟩|⟨g,cap,cur,rfl,hb,hg,_⟩
 ·rw[h0];have:L=[]:=Zy h0;subst this;exact⟨none,0,rfl,zaK.nil _ _⟩
 ·refine⟨_,cap,rfl,⟨Ya,.inr ⟨g,0,rfl,(ZF.1 hg).1,fun j l hj=>?_⟩⟩⟩
  have hlt:=(Zr.1 hj).1;obtain⟨c,hc⟩:∃c,CL[j]? =some c:=⟨CL[j],Zh Ya⟩
  obtain⟨a1,a2,c1,c2,rfl,r1,r2⟩:=hrow j c l hc hj;have key:∀(i:Nat) (u:Value),(zer l a1 a2 c1 c2)[i]? =some u->w.cell? ⟨g,0+j*9+i,none⟩=some u:=by
   intro i u hu;have:=hown.cells (g:=g) rfl (j*9+i) u (ztM h9 hc hu);rw[Zaq]at this;rw[ZR]
   simpa using this
  exact⟨a1,a2,c1,c2,⟨by simpa using key 0 _ rfl,key 1 _ rfl,key 2 _ rfl,key 3 _ rfl,key 4 _ rfl,key 5 _ rfl,key 6 _ rfl,key 7 _ rfl,key 8 _ rfl⟩,r1,r2⟩
structure MkL (w0 w:World) (M T:Nat) (inp v:Value) (CL:List (List Value)):Prop where
 box:w.heap[M]? =some (.cells #[inp,v] T (0,0))
 own:w.ownsRow w0.heap.size 44 9 v CL.length CL.flatten
 nM:v.ownBlock≠some M
 ge:w0.heap.size<=M
 be:Below w0.heap.size w0 w
theorem MkL.c1(h:MkL w0 w M T inp v CL):w.cell? ⟨M,1,none⟩=some v:=by simp[World.cell?,h.box]
theorem MkL.lt(h:MkL w0 w M T inp v CL):M<w.heap.size:=(ZF.1 h.box).1
theorem MkL.mid{v':Value}{c:List Value}(h:MkL w0 w M T inp v CL)(hg:(w.alloc o).grownBy w' v.ownBlock):
  w'.heap[M]? =some (.cells #[inp,v] T (0,0))/\w'.cell? ⟨M,1,none⟩=some v/\w'.frozen? ⟨M,1,none⟩=false:=by
 have hlt:=h.lt;have hb:w'.heap[M]? =some (.cells #[inp,v] T (0,0)):=by
  rw[hg.block M Yi (fun e=>h.nM e.symm)];show(w.heap.push o)[M]? =_
  rw[Array.getElem?_push_lt hlt,<- Zbm hlt];exact h.box
 exact⟨hb,by simp[World.cell?,hb],by simp[World.frozen?,hb]⟩
theorem MkL.step(h:MkL w0 w M T inp v CL)(ho:w'.ownsRow w0.heap.size 44 9 v' (CL.length+1) (CL.flatten++c))
 (hg:(w.alloc o).grownBy w' v.ownBlock)(hn:zi7 (w.alloc o) v v'):MkL w0 (w'.setCell ⟨M,1,none⟩ v') M T inp v' (CL++[c]):=by
 have hlt:=h.lt;have hb:=(h.mid (v':=v') (c:=c) hg).1;have hne:v'.ownBlock≠some M:=by
  rcases hn with e|⟨g,e,hge⟩
  ·rw[e];exact h.nM
  ·rw[e];intro e2;cases e2;simp at hge;omega
 have hal:Below w.heap.size w (w.alloc o):=(Ze _ _).alloc (Za _) _
 refine⟨?_,?_,hne,h.ge,?_⟩
 ·unfold World.setCell;simp only[Zbl,Zm,hb,Option.map_some];rfl
 ·rw[ZE,List.flatten_append];simp only[ZH,Zax,List.flatten_cons,List.flatten_nil,ZaK,ZR];exact ownsRow_setCell_other ho hne _
 ·have h1:=(h.be.trans (hal.mono h.be.size)).grown hg (by have:=h.be.size;simp;omega) (fun k hk=>(h.own.lt k hk).1);exact h1.setCell h.ge _
theorem zc2(w:World)(c:List Value)(T:Nat)(h9:c.length=9)(h1:∀u∈c,u.oneCell'=true):zho (w.alloc (.cells c.toArray T)) (some ⟨w.heap.size,0,none⟩) 1 9 c:=by
 refine⟨Ya,h1,fun _=>⟨w.heap.size,0,rfl,Yc,fun j u hj=>?_⟩⟩
 rw[ZR,World.cell?_alloc_at _ _ _ _ rfl]
 simpa using hj
theorem zgn(l:zac)(a1 a2:Option Addr)(c1 c2:Nat):∀u∈zer l a1 a2 c1 c2,u.oneCell'=true:=by
 intro u hu;unfold zer at hu;simp at hu
 rcases hu with rfl|rfl|rfl|rfl|rfl|rfl|rfl|rfl|rfl<;>rfl
def zaU(w:World)(p:List Int×Int)(e:Ending)(w':World):Prop:=
 (∃a c,e=.returned (.tuple #[.slice a p.1.length c,.int .i64 p.2])/\zah w' (fun b=>w.heap.size<=b) a p.1/\p.1.length<=c)/\Below w.heap.size w w'
theorem zaI{p:List Int×Int}{n:Int}(h:p=([],n))(hb:Below w.heap.size w w'):zaU w p (.returned (.tuple #[.slice none 0 0,.int .i64 n])) w':=by
 subst h;exact⟨⟨none,0,rfl,zah.nil _ _ _,Za _⟩,hb⟩
def zbW(n:Nat):List (List Value):=List.replicate n (zer zbV none none 0 0)
theorem zbg(n:Nat):(zbW n).length=n:=by unfold zbW;simp
theorem zhb(n:Nat):zbW n++[zer zbV none none 0 0]=zbW (n+1):=by unfold zbW;rw[List.replicate_succ']
theorem zhQ{b1 b2:Option Addr}{d1 d2:Nat}(r1:zm w b1 l.weights)(r2:zm w b2 l.bias):
  (∀(j:Nat) (c:List Value) (x:zac),(zbW n++[zer l b1 b2 d1 d2])[j]? =some c->(List.replicate n zbV++[l])[j]? =some x->∃a1 a2 c1 c2,c=zer x a1 a2 c1 c2/\zm w a1 x.weights/\zm w a2 x.bias)/\
  ∀c∈zbW n++[zer l b1 b2 d1 d2],c.length=9:=by
 constructor
 ·intro j c x hc hx
  by_cases hj:j<n
  ·rw[Zz (by rw[zbg];exact hj)]at hc;rw[Zz Uf]at hx;unfold zbW at hc;rw[List.getElem?_replicate,Zm hj,ZaG]at hc hx;subst hc hx;exact⟨none,none,0,0,rfl,zm.nil _ _,zm.nil _ _⟩
  ·rw[ZI (by rw[zbg];omega),zbg]at hc;rw[ZI Yi,Zbj]at hx;have h0:=(Zr.1 hc).1;simp at h0;obtain rfl:j=n:=Ya;simp at hc hx;subst hc hx;exact⟨b1,b2,d1,d2,rfl,r1,r2⟩
 ·intro c hc
  rcases Zar.1 hc with h|h
  ·rw[Zbq h];rfl
  ·simp at h;subst h;rfl
theorem zdd(h:w.ownsRow base E 9 v n xs):∃a c,v=.slice a n c:=by
 rcases h.2 with⟨rfl,rfl⟩|⟨g,cap,cur,rfl,_⟩
 ·exact⟨_,_,rfl⟩
 ·exact⟨_,_,rfl⟩
theorem zh5{s:List Int}(h:S[j]? =some s):(S.take (j+1)).all zk=((S.take j).all zk && zk s):=by
 rw[zar h,Zbx];simp
theorem zuh{w:World}{u:Value}{input:List Int}{S:List (List Int)}{l:zac}{ai ash:Option Addr}(ci cs:Nat)(hi:zah w Any ai input)(hS:zbd w Any ash S)(hu:zcV w u l)(hr:zQ l)(hle:zbF l)(hn:S.length<=1000):
  Calls Tryz.prog 52 #[.slice ai input.length ci,.slice ash S.length cs,u] w (zaU w (zL input S l)):=by
 obtain⟨b1,b2,d1,d2,rfl,r1,r2⟩:=hu.ex;have q1:=hi.len;have q2:=hS.len;have q3:=r1.len;have q4:=r2.len;obtain⟨HI,HS,HU,R1,R2,HRg⟩:=hd6 hi hS hu r1 r2 hr;obtain⟨HLe,HN⟩:=hd2 hle hn;generalize hR:zL input S l=RR;have HR:=hid hR;unfold zL at hR;have HRd:=hid hR;clear hi hS hu r1 r2 hr hle hR
 go_enter Tryz.func52,Tryz.ntmps52
 go_upto_region 1 with fail
 have hb0:=blA w (zbG l b1 d1 b2 d2 44);have hx:=b9l w l b1 d1 b2 d2 44;generalize w.alloc (zbG l b1 d1 b2 d2 44)=W at *;obtain⟨HB0,HX⟩:=hd2 hb0 hx;clear hb0 hx
 go_upto_region 2 with fail
 have hmk:MkL W (W.alloc (.cells #[.slice ai input.length ci,.slice none 0 0] 25)) W.heap.size 25 (.slice ai input.length ci) (.slice none 0 0) (zbW 0):=by
  refine⟨?_,Zaw _ _ _ _,VM,Za _,(Ze _ _).alloc (Za _) _⟩
  show(W.heap.push _)[W.heap.size]? =_
  exact Iz
 have HMk:=hid hmk;generalize W.alloc (.cells #[.slice ai input.length ci,.slice none 0 0] 25)=W1 at *;clear hmk;go_wp2
 go_loopw [10,17] (fun _ i wr=>∃(j:Nat) (v:Value),j<=S.length/\i=.int .i64 (j:Int)/\Hid ((S.take j).all zk=true)/\Hid (MkL W wr W.heap.size 25 (.slice ai input.length ci) v (zbW j))) (fun _ i _=>S.length-(intOf i).toNat)
 case atStart=>exact⟨0,_,Zs _,rfl,rfl,HMk.out⟩
 case round=>
  obtain⟨j,v,hj,rfl,HA,HM⟩:=hrel;have hbw:=HM.out.be
  by_cases hlt:j<S.length
  ·obtain⟨bb,off,s,aj,cj,rfl,hcell,hs,_,hIs,hbb,_⟩:=(HS.out.below (HB0.out.trans (hbw.mono HB0.out.size))).pickc hlt;obtain⟨HTk,HMem,HV⟩:=hd3 (zh5 hs) (Zq hs) (zgR cj hIs);have ql:=hIs.len;clear hs hIs hbw
   cases hv:zk s with
   | false=>
    rw[hv]at HV;have HF:Hid (RR=([],1)):=O7;clear hv
    go_wp2_with fail
    refine HV.out.mono ?_
    rintro e w' ⟨rfl,rfl⟩;go_wp2
    go_ret2
    exact zaI HF.out (HB0.out.trans (HM.out.be.mono HB0.out.size))
   | true=>
    rw[hv]at HV;have HA2:Hid ((S.take (j+1)).all zk=true):=by unfold Hid;rw[HTk.out,HA.out,hv];rfl
    clear hv
    go_wp2_with fail
    refine HV.out.mono ?_
    rintro e w' ⟨rfl,rfl⟩;have k1:=HM.out.c1;have hj2:j<1000:=by have:=HN.out;omega
    clear hcell
    go_wp2_with (at_builtin;refine zaa rfl (.tmp 25) (.tmp 27) 23 23 rfl W.heap.size 44 (.agg #[.int .i64 0,.int .i64 0,.int .i64 0,.int .i64 0,.int .i64 0,.int .i64 0,.int .i64 0,.slice none 0 0,.slice none 0 0]) 9 104 Tryz.underlying23 Tryz.underlying23 Tryz.infoLay rfl Ya v j (zbW j).flatten rfl Ys (some ⟨wr.heap.size,0,none⟩) 1 1 (zer zbV none none 0 0) rfl (zc2 wr (zer zbV none none 0 0) _ rfl (zgn _ _ _ _ _)) Ya Yf X5 ?_;intro v' w' hown hg hn2;obtain⟨av,cv,rfl⟩:=zdd hown;have k3:=(HM.out.mid (v':=.slice av (j+1) cv) (c:=zer zbV none none 0 0) hg).2.1;have k4:=(HM.out.mid (v':=.slice av (j+1) cv) (c:=zer zbV none none 0 0) hg).2.2;have HOwn:=hid hown;have HG:=hid hg;have HN2:=hid hn2;clear hown hg hn2)
    have hst:=HM.out.step (c:=zer zbV none none 0 0) X9 HG.out HN2.out;rw[zhb]at hst;have HSt:=hid hst;clear hst k1 k3 k4;go_roundw
    case rel=>exact⟨j+1,_,hlt,Yg,HA2.out,HSt.out⟩
    case measure=>simp[intOf];omega
  ·obtain rfl:j=S.length:=Ya;have HAl:Hid (S.all zk=true):=by have:=HA.out;rwa [Zae]at this
   obtain⟨a0,c0,rfl⟩:=zdd HM.out.own;rw[zbg]at HM;have HXw:=hid (HX.out.below HM.out.be);obtain⟨x0,x1,x2,x3,x4,x5,x6,x7,x8,xlt⟩:=HXw.out;have k1:=HM.out.c1;clear hbw hlt HMk
   go_wp2_with (at_builtin;refine zaa rfl (.tmp 32) (.tmp 34) 23 23 rfl W.heap.size 44 (.agg #[.int .i64 0,.int .i64 0,.int .i64 0,.int .i64 0,.int .i64 0,.int .i64 0,.int .i64 0,.slice none 0 0,.slice none 0 0]) 9 104 Tryz.underlying23 Tryz.underlying23 Tryz.infoLay rfl Ya (.slice a0 S.length c0) S.length (zbW S.length).flatten rfl Xd (some ⟨wr.heap.size,0,none⟩) 1 1 (zer l b1 b2 d1 d2) rfl (zc2 wr (zer l b1 b2 d1 d2) _ rfl (zgn _ _ _ _ _)) Ya Yf X5 ?_;intro v' w' hown hg hn2;obtain⟨av,cv,rfl⟩:=zdd hown;have k3:=(HM.out.mid (v':=.slice av (S.length+1) cv) (c:=zer l b1 b2 d1 d2) hg).2.1;have k4:=(HM.out.mid (v':=.slice av (S.length+1) cv) (c:=zer l b1 b2 d1 d2) hg).2.2;have k5:w'.cell? ⟨W.heap.size,0,none⟩=some (.slice ai input.length ci):=(by have hbx:=(HM.out.mid (v':=.slice av (S.length+1) cv) (c:=zer l b1 b2 d1 d2) hg).1;simp[World.cell?,hbx]);have HOwn:=hid hown;have HG:=hid hg;have HN2:=hid hn2;clear hown hg hn2)
   have hst:=HM.out.step (c:=zer l b1 b2 d1 d2) X9 HG.out HN2.out;have HSt:=hid hst;have hbe:=HB0.out.trans (hst.be.mono HB0.out.size);obtain⟨hrow,h9⟩:=zhQ (n:=S.length) (l:=l) (d1:=d1) (d2:=d2) (R1.out.below hbe) (R2.out.below hbe);have hown2:=hst.own;rw[show(zbW S.length++[zer l b1 b2 d1 d2]).length=S.length+1 from Xe]at hown2;have hLL:(List.replicate S.length zbV++[l]).length=S.length+1:=Yc;obtain⟨a9,c9,hv9,hlays⟩:=zll (L:=List.replicate S.length zbV++[l]) hown2 hLL.symm Ya Xe hrow h9;have hav:av=a9:=by injection hv9
   rw[<- hav]at hlays;have HLays:=hid hlays;have HVm:=hid (zqm (m:=⟨input,List.replicate S.length zbV++[l]⟩) ci cv (HI.out.below hbe) HLays.out (by
     intro x hx
     rcases Zar.1 hx with h|h
     ·rw[Zbq h];unfold zQ zbV I64;simp
     ·simp at h;subst h;exact HRg.out) (by
     exact Ez))
   rw[zfS]at HVm;simp only[hLL]at HVm;have HBe:=hid hbe;clear hst hbe hrow h9 hown2 hLL hv9 hlays hav k1 k3 k4 k5 x0 x1 x2 x3 x4 x5 x6 x7 x8 xlt HOwn HG HN2;generalize w'.setCell ⟨W.heap.size,1,none⟩ (.slice av (S.length+1) cv)=w2 at *
   refine HVm.out.mono ?_
   rintro e w3 ⟨rfl,hb3⟩;have HB3:=htr HBe hb3;have HX3:=hid ((HX.out.below HSt.out.be).below hb3);clear hb3 HVm
   cases hvm:(zk input && (decide (S.length+1<=64) && zai l S.length))with
   | false=>
    have HF:Hid (RR=([],1)):=Kl;clear hvm;exact Eg
   | true=>
    have HRe:Hid ((if(za9 input S l).2 && zk (za9 input S l).1 then((za9 input S l).1,0)else([],7))=RR):=by
     have h:=HRd.out;rw[hvm,HAl.out,Z4,Zm rfl]at h;exact h
    simp only[Zu,ZC]at hvm;obtain⟨hvi,hn64,hok⟩:=hvm;have hcur:zk (zh input S)=true:=by
     unfold zh
     cases hg:S.getLast? with
     | none=>exact hvi
     | some s=>exact Zau.1 HAl.out s (ZaY hg)
    have HO:=hid (zui (w:=w3) (input:=input) (S:=S) ⟨ai,ash,ci,cs,rfl,HI.out.below HB3.out,HS.out.below HB3.out⟩ (HU.out.below HB3.out) hok hcur);obtain⟨x0,x1,x2,x3,x4,x5,x6,x7,x8,xlt⟩:=HX3.out;clear hvi hn64 hok hcur
    go_wp2_with fail
    refine HO.out.mono ?_
    rintro e w4 ⟨⟨a4,c4,rfl,hI4⟩,hb4⟩;have HB4:=htr HB3 hb4;obtain⟨HI4,HV4⟩:=hd2 hI4 (zgR c4 hI4);have q5:=hI4.len;clear x0 x1 x2 x3 x4 x5 x6 x7 x8 xlt hb4 hI4 HO;generalize za9 input S l=raw at *;obtain⟨o,ok⟩:=raw;simp only at HI4 HV4 q5 HRe⊢
    cases ok with
    | false=>
     have HF:Hid (RR=([],7)):=by unfold Hid;rw[<- HRe.out];rfl
     go_wp2
     go_ret2
     exact zaI HF.out HB4.out
    | true=>
     cases hvo:zk o with
     | false=>
      have HF:Hid (RR=([],7)):=VB;rw[hvo]at HV4;clear hvo
      go_wp2_with fail
      refine HV4.out.mono ?_
      rintro e w' ⟨rfl,rfl⟩;go_wp2
      go_ret2
      exact zaI HF.out HB4.out
     | true=>
      have HF:Hid (RR=(o,0)):=VB;have HCl:=hid (zrV c4 HI4.out (zb0 hvo).1 (zb0 hvo).2);rw[hvo]at HV4;clear hvo
      go_wp2_with fail
      refine HV4.out.mono ?_
      rintro e w' ⟨rfl,rfl⟩
      go_wp2_with fail
      refine HCl.out.mono ?_
      rintro e w5 ⟨⟨a5,c5,rfl,hI5,hc5⟩,hb5⟩;have HI5:=hid hI5;have HB5:=htr HB4 hb5;have HC5:=hid hc5;clear hI5 hb5 hc5;go_wp2
      go_ret2
      rw[HF.out];exact⟨⟨a5,c5,rfl,HI5.out.mono (fun b _ hb=>Zi HB4.out.size hb),HC5.out⟩,HB5.out⟩
def zoH(w:World)(p:List (List Int)×Int×Int)(e:Ending)(w':World):Prop:=
 (∃a c,e=.returned (.tuple #[.slice a p.1.length c,.int .i64 p.2.1,.int .i64 p.2.2])/\zbd w' (fun b=>w.heap.size<=b) a p.1)/\Below w.heap.size w w'
theorem zhJ{p:List (List Int)×Int×Int}{n:Int}(h:p=([],i,n))(hb:Below w.heap.size w w'):zoH w p (.returned (.tuple #[.slice none 0 0,.int .i64 i,.int .i64 n])) w':=by
 subst h;exact⟨⟨none,0,rfl,zbd.nil _ _ _⟩,hb⟩
theorem zcU.lt{L:List (List Int)}(h:zcU w base E v xs L):∀b,v.ownBlock=some b->b<w.heap.size:=fun b hb=>(h.own.lt b hb).2
theorem zdY{fn:Func}{t u x:Tmp}(h:fn.results=#[.tmp t,.tmp u,.tmp x])(tmps:Array Value)(P:Program)(w:World):
  (results fn tmps).run P w=.ok (.tuple #[tmps.getD t undef,tmps.getD u undef,tmps.getD x undef]) w:=by
 simp[results,h]
theorem sOf{w:World}{m:zec}{a1 a2:Option Addr}(c1 c2:Nat)(h1:zah w Any a1 m.input)(h2:zaK w a2 m.layers)(hr:∀l∈m.layers,zQ l)(hs:∀l∈m.layers,zbF l):
  Calls Tryz.prog 30 #[.agg #[.slice a1 m.input.length c1,.slice a2 m.layers.length c2]] w (zoH w (zI m)):=by
 have q1:=h1.len;have q2:=h2.len;obtain⟨H1,H2,HRg,HSh⟩:=hd4 h1 h2 hr hs;generalize hR:zI m=RR;have HR:=hid hR;unfold zI at hR;have HRd:=hid hR;clear h1 h2 hr hs hR
 go_enter Tryz.func30,Tryz.ntmps30
 go_upto_region 1 with fail
 have hb0:=blA w (.cells #[.slice a1 m.input.length c1,.slice a2 m.layers.length c2] 25);have hx:=za1.alloc w (.slice a1 m.input.length c1) (.slice a2 m.layers.length c2) 25;generalize w.alloc (.cells #[.slice a1 m.input.length c1,.slice a2 m.layers.length c2] 25)=W at *;obtain⟨HB0,HX⟩:=hd2 hb0 hx;obtain⟨x0,x1,xf,xlt⟩:=hx;clear hb0
 go_wp2_with fail
 refine(zqm c1 c2 (H1.out.below HB0.out) (H2.out.below HB0.out) HRg.out HSh.out).mono ?_
 rintro e w1 ⟨rfl,hb1⟩;have HX1:=hid (HX.out.below hb1);have HB1:=htr HB0 hb1;clear hb1 x0 x1 xf xlt
 cases hvm:zbe m with
 | false=>
  exact EG
 | true=>
  have HRe:Hid (zW m.input [] m.layers=RR):=Kj;have hv:=zi6 hvm;have HL64:=hid hv.2.1;have hl64:=hv.2.1;obtain⟨x0,x1,xf,xlt⟩:=HX1.out;clear hvm hv;go_wp2;clear x0 x1 xf xlt
  go_loopw [5,16] (fun u i wr=>∃(j:Nat) (xs:List Value) (T:List (List Int)),j<=m.layers.length/\i=.int .i64 (j:Int)/\Hid (T.length=j)/\Hid (zW m.input T (m.layers.drop j)=RR)/\Hid (zcU wr w1.heap.size 22 u xs T)/\Hid (Below w1.heap.size w1 wr)) (fun _ i _=>m.layers.length-(intOf i).toNat)
  case atStart=>exact⟨0,[],[],Zs _,rfl,rfl,HRe.out,zcU.nil _ _ _,Ze _ _⟩
  case round=>
   obtain⟨j,xs,T,hj,rfl,HTl,HS,HOw,HB⟩:=hrel;have hbw:=HB1.out.trans (HB.out.mono HB1.out.size);obtain⟨av,cv,hu,hT⟩:=HOw.out.intss Km;rw[HTl.out]at hu;subst hu
   by_cases hlt:j<m.layers.length
   ·obtain⟨x0,x1,xf,xlt⟩:=HX1.out.below HB.out;obtain⟨bl,ol,l,rfl,hbl,hl,b1,b2,d1,d2,⟨l0,l1,l2,l3,l4,l5,l6,l7,l8⟩,r1,r2⟩:=(H2.out.below hbw).pick hlt;have hmem:=Zq hl;have hdrop:m.layers.drop j=l::m.layers.drop (j+1):=UV;have HStep:Hid ((if(zL m.input T l).2=0 then zW m.input (T++[(zL m.input T l).1]) (m.layers.drop (j+1))else([],(j:Int),(zL m.input T l).2))=RR):=by
     have:=HS.out;rw[hdrop,zbP,HTl.out]at this;exact this
    have hbV:=blA wr (zbG l b1 d1 b2 d2 44);have hbW:=hbw.trans (hbV.mono hbw.size);obtain⟨HO,HBV⟩:=hd2 (zuh (u:=.agg #[.int .i64 l.kind,.int .i64 l.frm,.int .i64 l.out,.int .i64 l.kh,.int .i64 l.kw,.int .i64 l.stride,.int .i64 l.pad,.slice b1 l.weights.length d1,.slice b2 l.bias.length d2]) c1 cv (H1.out.below hbW) ((hT.mono (F':=Any) (fun _ _ _=>trivial)).below hbV) ⟨b1,b2,d1,d2,rfl,r1.below hbV,r2.below hbV⟩ (HRg.out l hmem) (HSh.out l hmem) Km) hbV;have p1:=r1.len;have p2:=r2.len;rw[HTl.out]at HO;clear hmem hl hdrop hbV hbW hbw hT r1 r2 HS
    go_wp2_with fail
    refine HO.out.mono ?_
    rintro e w2 ⟨⟨a5,c5,rfl,hI5,hc5⟩,hb2⟩;obtain⟨HB2,HOw2,HI5,HC5⟩:=hd4 (HB.out.trans ((HBV.out.trans (hb2.mono HBV.out.size)).mono HB.out.size)) (HOw.out.frame (HBV.out.trans (hb2.mono HBV.out.size))) hI5 hc5;have HLt:Hid (∀b,(Value.slice av j cv).ownBlock=some b->b<(wr.alloc (zbG l b1 d1 b2 d2 44)).heap.size):=fun b hb=>by have:=HOw.out.lt b hb;simp;omega
    generalize wr.alloc (zbG l b1 d1 b2 d2 44)=V at *;have hgeV:Hid (w1.heap.size<=V.heap.size):=Zi HB.out.size HBV.out.size;generalize zL m.input T l=P at *;obtain⟨o,er⟩:=P;simp only at HI5 HC5 HStep⊢;clear x0 x1 xf xlt l0 l1 l2 l3 l4 l5 l6 l7 l8 hI5 hc5 hb2 HO
    by_cases he:er=0
    ·have HStep2:Hid (zW m.input (T++[o]) (m.layers.drop (j+1))=RR):=KJ;have t1:(er != 0)=false:=Uj;have t2:(er==0)=true:=Uj;have t3:decide (¬ er=0)=false:=Kp;have HTj:=hid (show j<64 from Ya);clear he
     go_wp2_with (at_builtin;refine zao rfl (.tmp 33) (.tmp 35) 65 rfl w1.heap.size 22 (.slice none 0 0) 24 Tryz.underlying65 Yb rfl (.slice av j cv) j xs rfl KO (.slice a5 o.length c5) rfl rfl (by have:=HTj.out;omega) V6 (by exact HB2.out.size) ?_;intro v' w' hown hg hn2;have HOwn:=hid hown;have HG:=hid hg;have HN2:=hid hn2;clear hown hg hn2)
     have happ:=HOw2.out.app (l:=o) HI5.out HC5.out (fun b hb=>⟨Zi hgeV.out hb,fun e=>by have:=HLt.out b e;omega⟩) (by rw[HTl.out];exact HOwn.out) HG.out HN2.out;obtain⟨HApp,HB3⟩:=hd2 happ (HB2.out.grown HG.out HB2.out.size (fun k hk=>(HOw2.out.own.lt k hk).1));clear happ;go_roundw
     case rel=>exact⟨j+1,_,T++[o],hlt,Yg,KU,HStep2.out,HApp.out,HB3.out⟩
     case measure=>simp[intOf];omega
    ·have HF:Hid (RR=([],(j:Int),er)):=by unfold Hid;rw[<- HStep.out,Zg he]
     have t1:(er != 0)=true:=Y2;have t2:(er==0)=false:=by rw[Zaf];exact he
     exact Ej
   ·obtain rfl:j=m.layers.length:=Ya;have HF:Hid (RR=(T,0,0)):=by
     have h:=HS.out;rw[Zbr]at h;exact h.symm
    obtain⟨HT,HBw⟩:=hd2 hT hbw;exact TX
theorem zah.src1'{F:Nat->Prop}{l:List Int}(h:zah w F a l):zho w a l.length 1 (l.map (Value.int .i64)):=by
 refine⟨Yc,?_,fun hp=>?_⟩
 ·intro u hu;obtain⟨x,_,rfl⟩:=ZP.1 hu;rfl
 ·rcases h.row with rfl|⟨b,off,rfl,_,hb,hc⟩
  ·simp at hp
  ·refine⟨b,off,rfl,hb,fun j u hu=>?_⟩
   rw[ZN]at hu;obtain⟨d,hd,rfl⟩:=Option.map_eq_some_iff.1 hu;exact hc j d hd
theorem Tryz.infoIntS:(Tryz.prog.info? 3).map (fun i=>(i.zero,i.size,i.bytes))=some (some (.int .i64 0),1,8):=Yb
theorem znk(w:World)(T:Nat):(w.alloc (.cells #[] T)).heap[w.heap.size]? =some (.cells #[] T (0,0)):=by
 show(w.heap.push _)[w.heap.size]? =_
 exact Iz
theorem zoY{l:List Int}(h:w.ownsRow base E 1 v n (l.map (Value.int .i64)))(hn:n=l.length)(hw:∀x∈l,I64 x)(hl:l.length<=9223372036854775807):
  ∃a c,v=.slice a l.length c/\zah w (fun b=>base<=b) a l/\l.length<=c:=by
 subst hn
 rcases h.2 with⟨rfl,h0⟩|⟨g,cap,cur,rfl,hb,hg,hnc,_⟩
 ·rw[h0];have:l=[]:=Zy h0;subst this;exact⟨none,0,rfl,zah.nil _ _ _,Za _⟩
 ·refine⟨_,cap,rfl,⟨hw,hl,.inr ⟨g,0,rfl,hb,(ZF.1 hg).1,fun j d hj=>?_⟩⟩,hnc⟩
  have:=h.cells (g:=g) rfl j (.int .i64 d) (by rw[ZN,hj];rfl)
  simpa [Zaq]using this
def zoS(s:List Int):List Int×Int:=if zk s then(s,0)else([],7)
theorem zfO{w:World}{F:Nat->Prop}{a:Option Addr}{s:List Int}(c:Nat)(h:zah w F a s):
  Calls Tryz.prog 96 #[.slice a s.length c] w (zaU w (zoS s)):=by
 have hl:=h.len;obtain⟨H,HV⟩:=hd2 h (zbu c h);generalize hR:zoS s=R;unfold zoS at hR;clear h
 cases hv:zk s with
 | false=>
  rw[hv]at hR HV;have HF:Hid (R=([],7)):=hR.symm;clear hR hv
  go_enter Tryz.func96,Tryz.ntmps96
  go_wp2_with fail
  refine HV.out.mono ?_
  rintro e w' ⟨rfl,rfl⟩;go_wp2
  go_ret2
  exact zaI HF.out (Ze _ _)
 | true=>
  have hlen:=(zb0 hv).2;rw[hv]at hR HV;have HF:Hid (R=(s,0)):=hR.symm;clear hR hv
  go_enter Tryz.func96,Tryz.ntmps96
  go_wp2_with fail
  refine HV.out.mono ?_
  rintro e w' ⟨rfl,rfl⟩
  go_wp2_with (at_builtin;refine zaa rfl (.tmp 7) (.tmp 8) 22 22 rfl w.heap.size 3 (.int .i64 0) 1 8 Tryz.underlying22 Tryz.underlying22 Tryz.infoIntS rfl Ya (.slice (some ⟨w.heap.size,0,none⟩) 0 0) 0 [] rfl (zea (znk _ _) (Za _)) a s.length c _ rfl (H.out.below ((Ze w.heap.size w).alloc (Za _) (.cells #[] 3))).src1' Ya Yf Yc ?_;intro v' w' hown hg hn2;have HOwn:=hid hown;have HG:=hid hg;clear hown hg hn2)
  have hown:=HOwn.out;rw[ZaV]at hown;obtain⟨a',c',hv',hI,hc⟩:=zoY hown Ya H.out.wf hl;subst hv';obtain⟨HI,HC,HB⟩:=hd3 hI hc (((Ze w.heap.size w).alloc (Za _) (.cells #[] 3)).grown HG.out Yc (fun k hk=>by simp[Value.ownBlock]at hk;omega));clear hown hI hc
  go_ret2
  rw[HF.out];exact⟨⟨a',c',rfl,HI.out,HC.out⟩,HB.out⟩
structure zkA (w:World) (a:Option Addr) (Y:List (List zaf)):Prop where
 len:Y.length<=9223372036854775807
 row:Y=[] ∨ ∃b off,a=some ⟨b,off,none⟩/\b<w.heap.size/\∀(j:Nat) (l:List zaf),Y[j]? =some l->∃(aj:Option Addr) (cj:Nat),w.cell? ⟨b,off+j,none⟩=some (.slice aj l.length cj)/\l.length<=cj/\zm w aj l
theorem zkA.pick(h:zkA w a Y)(hk:k<Y.length):
  ∃b off l aj cj,a=some ⟨b,off,none⟩/\w.cell? ⟨b,off+k,none⟩=some (.slice aj l.length cj)/\Y[k]? =some l/\l.length<=cj/\zm w aj l/\b<w.heap.size:=by
 rcases h.row with rfl|⟨b,off,rfl,hb,hc⟩
 ·simp at hk
 ·have hd:Y[k]? =some Y[k]:=JR;obtain⟨aj,cj,h1,h2,h3⟩:=hc k _ hd;exact⟨b,off,Y[k],aj,cj,rfl,h1,hd,h2,h3,hb⟩
theorem zkN{l m:List Nat}(c d:Nat)(h:zw w a l)(g:zw w b m):
  Calls Tryz.prog 72 #[.slice a l.length c,.slice b m.length d] w fun e w'=>e=.returned (.bool (decide (l=m)))/\∃n,w'=w.drewN n:=by
 have hl:=h.len;have hm:=g.len;obtain⟨HA,HB⟩:=hd2 h g;clear h g
 go_enter Tryz.func72,Tryz.ntmps72
 exact Uz
theorem zsl{x y:zaf}(hv:RatV w v x)(hu:RatV w u y):
  Calls Tryz.prog 43 #[v,u] w fun e w'=>e=.returned (.bool (decide (x=y)))/\Below w.heap.size w w':=by
 obtain⟨an,ad,cn,cd,rfl,a2,a3,a4,a5⟩:=hv.ex;obtain⟨bn,bd,dn,dd,rfl,b2,b3,b4,b5⟩:=hu.ex;have HR:=hid (zkV x y);generalize decide (x=y)=R at *;have hl1:=a4.len;have hl2:=a5.len;have hl3:=b4.len;have hl4:=b5.len;obtain⟨A4,A5,B4,B5⟩:=hd4 a4 a5 b4 b5;clear hv hu a4 a5 b4 b5
 go_enter Tryz.func43,Tryz.ntmps43
 go_upto_region 1 with fail
 have hF:=zsY.mk' w (.bool x.neg) (.slice an x.num.length cn) (.slice ad x.den.length cd) (.bool y.neg) (.slice bn y.num.length dn) (.slice bd y.den.length dd) 51;generalize(w.alloc (zbb x an cn ad cd 51)).alloc (zbb y bn dn bd dd 51)=W at *;obtain⟨HBl,HM1,HM2,HBn⟩:=hd4 hF.bl (zkN cn dn (A4.out.below hF.bl) (B4.out.below hF.bl)) (fun n=>zkN cd dd ((A5.out.below hF.bl).drewN n) ((B5.out.below hF.bl).drewN n)) (fun(wv:World) n=>Below.drewN_refl wv n);exact U8
theorem zqW{A B:List zaf}(c d:Nat)(h:zm w a A)(g:zm w b B):
  Calls Tryz.prog 19 #[.slice a A.length c,.slice b B.length d] w fun e w'=>e=.returned (.bool (decide (A=B)))/\Below w.heap.size w w':=by
 have hl:=h.len;have hm:=g.len;obtain⟨HA,HG⟩:=hd2 h g;clear h g
 by_cases he:A.length=B.length
 ·have HE:=hid he;have hlb:decide (¬ (A.length:Int)=(B.length:Int))=false:=Yi;have hlc:((A.length:Int)==(B.length:Int))=true:=Yi;have hld:((A.length:Int) != (B.length:Int))=false:=Uc;have hge1:A.length<=B.length:=Ya;have hge2:B.length<=A.length:=Ya;obtain⟨RR,hRR⟩:∃RR,RR=decide (A=B):=⟨_,rfl⟩
  have HRR:=hid hRR;rw[<- hRR];clear hRR
  go_enter Tryz.func19,Tryz.ntmps19
  clear he;go_wp2
  go_loopw [5] (fun i wr=>∃j:Nat,j<=A.length/\i=.int .i64 (j:Int)/\Hid (A.take j=B.take j)/\Hid (Below w.heap.size w wr)) (fun i _=>A.length-(intOf i).toNat)
  case atStart=>exact⟨0,Zs _,rfl,Xq,Ze _ _⟩
  case round=>
   obtain⟨j,hj,rfl,HT,HB⟩:=hrel
   by_cases hlt:j<A.length
   ·have hltm:j<B.length:=Ya;obtain⟨b1,o1,x,an,ad,cn,cd,rfl,hb1,hx,p0,p1,p2,hvx⟩:=(HA.out.below HB.out).pick hlt;obtain⟨b2,o2,y,bn,bd,dn,dd,rfl,hb2,hy,r0,r1,r2,hvy⟩:=(HG.out.below HB.out).pick hltm;obtain⟨HXx,HYy,TA,TB⟩:=hd4 hx hy (zar hx) (zar hy);have f0:=zz p0 hb1;have f1:=zz p1 hb1;have f2:=zz p2 hb1;have g0:=zz r0 hb2;have g1:=zz r1 hb2;have g2:=zz r2 hb2;have HC:Hid (∀e,Calls Tryz.prog 43 #[.agg #[.bool x.neg,.slice an x.num.length cn,.slice ad x.den.length cd],.agg #[.bool y.neg,.slice bn y.num.length dn,.slice bd y.den.length dd]] (ext wr e) fun e1 w'=>e1=.returned (.bool (decide (x=y)))/\Below (ext wr e).heap.size (ext wr e) w'):=fun e=>
     zsl (hvx.below (zF wr e)) (hvy.below (zF wr e))
    clear hx hy hvx hvy p0 p1 p2 r0 r1 r2
    by_cases hxy:x=y
    ·have hs:decide (x=y)=true:=Zk hxy;rw[hs]at HC;have HXY:=hid hxy;clear hxy hs;go_wp2
     refine zx Yb Yb ?_
     repeat (go_big_quiet_step (first|(go_at_call 43;exact Calls.ext_of (HC.out _))))
     refine wpQuiet_nil ?_
     intro _ hw';obtain⟨nq,hw''⟩:=hw';subst hw'';have HBN:=hid (HB.out.trans ((zF wr nq).mono HB.out.size));generalize ext wr nq=w5 at *;go_wp2;go_roundw
     case rel=>exact⟨j+1,hlt,Yg,Je,HBN.out⟩
     case measure=>simp[intOf];omega
    ·have hs:decide (x=y)=false:=Zj hxy;rw[hs]at HC;have hne:Hid (RR=false):=by
      unfold Hid;rw[HRR.out,Zag];rintro rfl;have h1:=HXx.out.symm.trans HYy.out;cases h1;exact hxy rfl
     clear hxy hs;go_wp2
     refine zx Yb Yb ?_
     repeat (go_big_quiet_step (first|(go_at_call 43;exact Calls.ext_of (HC.out _))))
     refine wpQuiet_nil ?_
     intro _ hw';obtain⟨nq,hw''⟩:=hw';subst hw'';have HBN:=hid (HB.out.trans ((zF wr nq).mono HB.out.size));generalize ext wr nq=w5 at *;go_wp2;go_ret;exact⟨zi hne.out.symm,HBN.out⟩
   ·obtain rfl:j=A.length:=Ya;have he2:Hid (RR=true):=by
     have h1:=HT.out;rw[Zae,HE.out,Zae]at h1;unfold Hid;rw[HRR.out];simp[h1]
    go_wp2;go_ret;exact⟨zi he2.out.symm,HB.out⟩
 ·have hne:Hid (decide (A=B)=false):=Oj
  go_enter Tryz.func19,Tryz.ntmps19
  go_wp2;go_ret;exact⟨zi hne.out.symm,Ze _ _⟩
def zbC(p:Value->Bool)(w:World)(g:Nat):Prop:=∀(o:Nat) (u:Value),w.cell? ⟨g,o,none⟩=some u->p u=true
def zhj(p:Value->Bool)(w:World)(v:Value):Prop:=∀g,v.ownBlock=some g->zbC p w g
theorem zbC.of_heap{p:Value->Bool}{c:Array Value}{f:Nat×Nat}(h:w.heap[g]? =some (.cells c T f))(hc:∀u∈c,p u=true):zbC p w g:=by
 intro o x e;simp only[World.cell?,h]at e;exact hc _ (Zbk e)
theorem zbC.below{p:Value->Bool}(h:zbC p w g)(hb:Below w.heap.size w w')(hg:g<w.heap.size):zbC p w' g:=fun o x e=>h o x ((hb.cell (p:=⟨g,o,none⟩) hg).symm.trans e)
theorem zlo{p:Value->Bool}{z:Value}(h:∀u∈z.cells,p u=true):∀u∈Builtin.zeroCells z.cells n,p u=true:=To
theorem zc5{P:Program}(p:Value->Bool)(w:World)(base:Nat)(t ty e:TypeId)(i:TypeInfo)(z:Value)(size bytes:Nat)(ht:P.underlying t=some (.slice e))(hi:P.info? e=some i)(hz:i.zero=some z)
 (hsize:i.size=size)(hby:i.bytes=bytes)(hzs:z.cells.size=size)(hsz:0<size)
 (v:Value)(n:Nat)(xs:List Value)(hown:w.ownsRow base e size v n xs)
 (a:Addr)(m c:Nat)(news:List Value)(hl:news.length=m*size)(hnews:∀j u,news[j]? =some u->w.cell? (a.add j)=some u)(h1:∀u∈news,u.oneCell'=true)
 (hm:0<m)(h63:n+m<=maxLen)(hbytes:(n+m)*bytes<=140737488355328)(hbase:base<=w.heap.size)
 (hno:zhj p w v)(hnn:∀u∈news,p u=true)(hzn:∀u∈z.cells,p u=true):
  ∃v' w',(Builtin.append_ #[t,t] ty #[v,.slice (some a) m c]).run P w=.ok v' w'/\w'.ownsRow base e size v' (n+m) (xs++news)/\w.grownBy w' v.ownBlock/\zi7 w v v'/\zhj p w' v':=by
 obtain⟨v',w',hr,h2,h3,h4⟩:=zbM (P:=P) w base t ty e i z size bytes ht hi hz hsize hby hzs hsz v n xs hown a m c news hl hnews h1 hm h63 hbytes hbase
 refine⟨v',w',hr,h2,h3,h4,?_⟩
 subst hsize;subst hby;have hsmall:n+m<=9223372036854775807:=XG
 rcases hown.2 with⟨rfl,rfl⟩|⟨g,cap,cur,rfl,hbg,hg,hnc,hcm,hcs,htake⟩
 ·have hr':=run_append_nil (P:=P) w t ty e i z ht hi hz a m c news hl hnews hm Ya XF;rw[hr']at hr;cases hr;intro g' hg';cases hg'
  refine zbC.of_heap (Za8 w.drew _) ?_
  intro u hu
  rcases Array.mem_append.1 hu with hu|hu
  ·exact hnn _ XV
  ·exact zlo hzn _ hu
 ·have hcur:∀u∈cur,p u=true:=by
   intro u hu;obtain⟨j,hj⟩:=Array.getElem?_of_mem hu;exact hno g rfl j u Vh
  by_cases hroom:n+m<=cap
  ·have hfit:n*i.size+news.length<=cur.size:=YN;have hr':=run_append_room (P:=P) w t ty e i ht hi g n cap cur hg a m c news hl hnews h1 hroom hfit;rw[hr']at hr;cases hr;intro g' hg';cases hg';intro o x ee;simp only[World.cell?,World.setRow]at ee;have hgs:=(ZF.1 hg).1;have hmem:∀u∈(cur.toList.take (n*i.size)++news++cur.toList.drop (n*i.size+news.length)),p u=true:=Eo;have key:∀(u:Value),(cur.toList.take (n*i.size)++news++cur.toList.drop (n*i.size+news.length)).toArray[o]? =some u->p u=true:=fun u hu=>hmem u Va
   have hcell:(w.setRow g (cur.toList.take (n*i.size)++news++cur.toList.drop (n*i.size+news.length)).toArray).cell? ⟨g,o,none⟩=(cur.toList.take (n*i.size)++news++cur.toList.drop (n*i.size+news.length)).toArray[o]? :=by
    simp[World.cell?,World.setRow,Zbl,hg]
   exact key x (hcell.symm.trans Jv)
  ·have holds:∀j u,xs[j]? =some u->w.cell? ((⟨g,0,none⟩:Addr).add j)=some u:=hown.cells (g:=g) rfl;have hr':=run_append_grow (P:=P) w t ty e i z ht hi hz ⟨g,0,none⟩ n cap xs hown.1 holds a m c news hl hnews Ya Ya (growslice_fits Ya hbytes);rw[hr']at hr;cases hr;intro g' hg';cases hg'
   refine zbC.of_heap (Za8 w.drew _) ?_
   intro u hu
   rcases Array.mem_append.1 hu with hu|hu
   ·exact Ep
   ·exact zlo hzn _ hu
def isS(v:Value):Bool:=match v with | .slice _ _ _=>true|_=>false
theorem zhj.no(h:zhj isS w v):NoO w v:=fun g hg o x e=>by have:=h g hg o _ e;cases this
theorem zm.grown{L:List zaf}(h:zm w a L)(hg:w.grownBy w' v.ownBlock)(hn:zhj isS w v):zm w' a L:=by
 refine⟨h.len,?_⟩
 rcases h.row with rfl|⟨b,off,rfl,hb,hc⟩
 ·exact .inl rfl
 ·by_cases hL:L=[]
  ·exact .inl hL
  ·have hp:=ZJ.2 hL;have hne:some b≠v.ownBlock:=by
    intro e;obtain⟨an,ad,cn,cd,h0,_⟩:=hc 0 L[0] (Zh hp);have:=hn b e.symm _ _ h0;cases this
   refine .inr ⟨b,off,rfl,Zb hb hg.size,fun j x hj=>?_⟩
   obtain⟨an,ad,cn,cd,h0,h1,h2,h3⟩:=hc j x hj;have hcell:∀o,w'.cell? ⟨b,o,none⟩=w.cell? ⟨b,o,none⟩:=fun o=>ZS (hg.block b hb hne)
   exact⟨an,ad,cn,cd,(hcell _).trans h0,(hcell _).trans h1,(hcell _).trans h2,h3.grown hg hn.no⟩
structure zdP (w:World) (base:Nat) (v:Value) (Y:List (List zaf)):Prop where
 ex:∃xs,w.ownsRow base 35 1 v Y.length xs/\∀(j:Nat) (l:List zaf),Y[j]? =some l->∃(aj:Option Addr) (cj:Nat),xs[j]? =some (.slice aj l.length cj)/\l.length<=cj/\zm w aj l
 no:zhj isS w v
theorem zdP.nil(w:World)(base:Nat):zdP w base (.slice none 0 0) []:=⟨⟨[],Zaw _ _ _ _,Yc⟩,Vq⟩
theorem zdP.lt(h:zdP w base v Y)(hk:v.ownBlock=some k):base<=k/\k<w.heap.size:=Ip
theorem zdP.below(h:zdP w base v Y)(hb:Below w.heap.size w w'):zdP w' base v Y:=by
 obtain⟨xs,ho,he⟩:=h.ex
 refine⟨⟨xs,ho.kept (row:=none) ⟨hb.os,hb.tape,hb.output,hb.size,fun k hk _=>hb.block k hk⟩ Xh,fun j x hj=>?_⟩,fun g hg=>(h.no g hg).below hb (h.lt hg).2⟩
 obtain⟨aj,cj,h1,h2,h3⟩:=he j x hj;exact⟨aj,cj,h1,h2,h3.below hb⟩
theorem zdP.rows{c:Nat}(h:zdP w base (.slice a n c) Y)(hl:Y.length<=9223372036854775807):zkA w a Y:=by
 obtain⟨xs,ho,he⟩:=h.ex
 rcases ho.2 with⟨e,hn⟩|⟨g,cap,cur,e,hb,hg,hnc,hcm,hcs,htake⟩
 ·exact I4
 ·cases e
  refine⟨hl,.inr ⟨g,0,rfl,(ZF.1 hg).1,fun j x hj=>?_⟩⟩
  obtain⟨aj,cj,h1,h2,h3⟩:=he j x hj;have k0:=ho.cells (g:=g) rfl _ _ h1;simp only[Zaq]at k0;exact⟨aj,cj,k0,h2,h3⟩
theorem zfC(h:w.ownsRow base T 1 v n xs):∃a c,v=.slice a n c/\n<=c:=TH
theorem zip{P:Program}{w:World}{ops:Array Oper}{rest:List Oper}{o:Oper}{a:Act}{Q:Exit->Act->World->Prop}(hgd:o.guard=none)(s x:Operand)(t:TypeId)
 (ho:o.op=.call { callee:=.builtin .append,args:=#[s,x],argTypes:=#[t,t] })
 (base:Nat)(ht:P.underlying t=some (.slice 35))(hinfo:(P.info? 35).map (fun i=>(i.zero,i.size,i.bytes))=some (some (.slice none 0 0),1,24))
 (v:Value)(n:Nat)(Y:List (List zaf))(hn:Y.length=n)(hs:a.eval s=v)(hown:zdP w base v Y)(l:List zaf)(m:Nat)(hm:l.length=m)(aj:Option Addr)(cj:Nat)(hcj:m<=cj)(hl:zm w aj l)
 (hx:a.eval x=.slice (some ⟨w.heap.size,0,none⟩) 1 1)(hL:n+1<=2000000000000)(hbase:base<=w.heap.size)
 (h:∀b k w',zdP w' base (.slice b (n+1) k) (Y++[l])->n+1<=k->Below base w w'->(∀(a':Option Addr) (L':List zaf),zm w a' L'->zm w' a' L')->wpList P ops Q rest (a.put o.dst (.slice b (n+1) k)) w'):
  wpList P ops Q (o::rest) a (w.alloc (.cells #[.slice aj m cj] 35)):=by
 subst hn hm
 refine wpList_plain hgd fun K hK=>?_
 obtain⟨i,hi,hz,hsize,hby⟩:=info_parts hinfo;have hal:=blA w (.cells #[.slice aj l.length cj] 35);have hown1:=hown.below hal;obtain⟨xs,hox,he⟩:=hown1.ex;have hcells:∀(j:Nat) (u:Value),[Value.slice aj l.length cj][j]? =some u->(w.alloc (.cells #[.slice aj l.length cj] 35)).cell? (Addr.add ⟨w.heap.size,0,none⟩ j)=some u:=by
  intro j u hj;rw[Zaq,World.cell?_alloc_at _ _ _ _ rfl]
  match j,hj with
  | 0,hj=>simpa using hj
 obtain⟨v',w',hr,r2,r3,r4,r5⟩:=zc5 (P:=P) isS (w.alloc (.cells #[.slice aj l.length cj] 35)) base t o.type _ i _ 1 24 ht hi hz hsize hby Kk Ya v Y.length xs hox ⟨w.heap.size,0,none⟩ 1 1
  [.slice aj l.length cj] rfl hcells YO Ya Yf Ya Yi
  hown1.no YO K0
 have hO:zdP w' base v' (Y++[l]):=by
  refine⟨⟨_,by simpa using r2,fun j y hj=>?_⟩,r5⟩
  by_cases hlt:j<Y.length
  ·rw[Zz hlt]at hj;obtain⟨bj,dj,q1,q2,q3⟩:=he j y hj;exact⟨bj,dj,by rw[Zz Vk];exact q1,q2,q3.grown r3 hown1.no⟩
  ·have hlt':=(Zr.1 hj).1;simp only[ZE,ZH,Zax]at hlt';obtain rfl:j=Y.length:=Ya;have e2:y=l:=JV;subst e2;exact⟨aj,cj,by rw[ZI Vk,hox.1];simp,hcj,(hl.below hal).grown r3 hown1.no⟩
 have hbe:Below base w w':=by
  have h0:Below base w (w.alloc (.cells #[.slice aj l.length cj] 35)):=hal.mono hbase;exact h0.grown r3 Yi (fun k hk=>(hown1.lt hk).1)
 obtain⟨b,k,e,hk⟩:=zfC r2;subst e;unfold Oper.wp execOp;simp only[ho,resolve,invoke,builtin,Sem.run_bind,Sem.run_pure,Result.andThen_ok,List.map_toArray,Zbf,List.map_nil,hs,hx,hr];exact hK _ _ (h b k w' hO hk hbe (fun a' L' hq=>(hq.below hal).grown r3 hown1.no))
theorem zjb{P:Program}{ops:Array Oper}{rest:List Oper}{o:Oper}{a:Act}{Q:Exit->Act->World->Prop}(hgd:o.guard=none)(s x:Operand)(t:TypeId)
 (ho:o.op=.call {callee:=.builtin .append,args:=#[s,x],argTypes:=#[t,t]})
 (base:Nat)(ht:P.underlying t=some (.slice 35))(hinfo:(P.info? 35).map (fun i=>(i.zero,i.size,i.bytes))=some (some (.slice none 0 0),1,24))
 (v:Value)(n:Nat)(Y:List (List zaf))(hn:Y.length=n)(hs:a.eval s=v)(hown:zdP w base v Y)(l:List zaf)(m:Nat)(hm:l.length=m)(aj:Option Addr)(cj:Nat)(hcj:m<=cj)(hl:zm w aj l)
 (hx:a.eval x=.slice (some ⟨w.heap.size,0,none⟩) 1 1)(hL:n+1<=2000000000000)(hbase:base<=w.heap.size)
 (h:∀b k w',zdP w' base (.slice b (n+1) k) (Y++[l])->n+1<=k->Below base w w'->wpList P ops Q rest (a.put o.dst (.slice b (n+1) k)) w'):
  wpList P ops Q (o::rest) a (w.alloc (.cells #[.slice aj m cj] 35)):=
 zip hgd s x t ho base ht hinfo v n Y hn hs hown l m hm aj cj hcj hl hx hL hbase (fun b k w' h1 h2 h3 _=>h b k w' h1 h2 h3)
def zqO(w:World)(a:Option Addr)(L:List zac):Prop:=∀(b off j:Nat) (l:zac) (a1:Option Addr) (n c1:Nat),a=some ⟨b,off,none⟩->L[j]? =some l->w.cell? ⟨b,off+j*9+7,none⟩=some (.slice a1 n c1)->n<=c1
theorem zqO.below(h:zqO w a L)(h2:zaK w a L)(hb:Below w.heap.size w w'):zqO w' a L:=by
 intro b off j l a1 n c1 ha hj hc
 rcases h2.row with rfl|⟨b',off',e,hs,_⟩
 ·simp at hj
 ·rw[ha]at e;cases e;exact h b off j l a1 n c1 ha hj ((hb.cell (p:=⟨b,off+j*9+7,none⟩) hs).symm.trans hc)
def zcv(m:zec)(x:List Rat):List (List zaf)×Int:=
 if(zI m).2.2=0 then(if(x.length:Int)=zt m.input then((zdM m x).map (fun y=>y.map zc),0)else([],11))else([],(zI m).2.2)
def zoz(w:World)(R:List (List zaf)×Int)(e:Ending)(w':World):Prop:=∃a c,e=.returned (.tuple #[.slice a R.1.length c,.int .i64 R.2])/\R.1.length<=c/\zkA w' a R.1/\Below w.heap.size w w'
theorem zkA.nil(w:World)(a:Option Addr):zkA w a []:=⟨Yc,.inl rfl⟩
theorem zlR{R:List (List zaf)×Int}{e:Int}(h:R=([],e))(hb:Below w.heap.size w w'):zoz w R (.returned (.tuple #[.slice none 0 0,.int .i64 e])) w':=by
 subst h;exact⟨none,0,rfl,Za _,zkA.nil _ _,hb⟩
def zdz(k D B:Nat):Prop:=∀D' B',D'<=D*WQ^k->B'<=9671406556917033397649408^k*B->zo6 D' B'
theorem zdz.now(h:zdz k D B):zo6 D B:=
 h D B (ZaE _ (Nat.pow_pos zcD)) (Zad _ (Nat.pow_pos Ya))
theorem zdz.next(h:zdz (k+1) D B)(hj:j<=WQ):zdz k (D*j) (9671406556917033397649408*B):=by
 intro D' B' hD hB
 refine h D' B' (Zi hD ?_) (Zi hB ?_)
 ·rw[Zas,ZL,ZD j];exact ZQ _ (ZQ _ hj)
 ·rw[Zas,<- ZL];exact Za _
end Go.Proofs.YtfgmmghmmfmdgaaGreat
namespace Go.Proofs.YtfgmmghmmfmdgaaGreat
open Go.RowKit Go.ChangeShapes Go.WideShapes Go.ChangeAt Go.Deep
open Go.Lib (hid)
section
variable {H:Type} {enc:TypeId×Value->H} {w:World} {base:Nat} {spare:Nat->Bool} {held:Bool}
theorem zlj{fuel:Nat}{a:Option Addr}{n k:Nat}{x:DataW H×List MemPlace}(h:DataW.trod enc Tryz.prog w base spare held fuel 35 [.slice a n k]=some x):n<=k:=by
 obtain⟨f0,f1,f2,hs,hone,t0,t1,t2⟩:=Tryz.rat_parts;obtain⟨a',len,cap,e,h1,_⟩:=zhe Tryz.underlying35 hs hone Yb Yc h;cases e;exact h1
theorem zo3{fuel:Nat}{a:Option Addr}{L:List zac}{k:Nat}{x:DataW H×List MemPlace}(h:DataW.trod enc Tryz.prog w base spare held fuel 23 [.slice a L.length k]=some x):zqO w a L:=by
 intro b off j l a1 n c1 ha hj hc;have hlt:=(Zr.1 hj).1;obtain⟨f0,f1,f2,f3,f4,f5,f6,f7,f8,hs,hone,t0,t1,t2,t3,t4,t5,t6,t7,t8⟩:=Tryz.layL_parts;subst ha;obtain⟨ys,m,hys,hf⟩:=zeM Tryz.underlying23 hs hone Yb h hlt;obtain⟨d1,y1,e1,g1,k1⟩:=hf 7 f7 rfl;rw[show(#[f0,f1,f2,f3,f4,f5,f6,f7,f8]:Array Field).size=9 from rfl]at e1;rw[hc,ZaG]at e1;subst e1;rw[t7]at k1;exact zlj k1
theorem zkD{r:Reach}{b0:Nat}{v:Value}{d:DataW H}{p:List MemPlace}(hv:Value.okWide Tryz.prog w r b0 25 v)
 (h:DataW.Trod enc Tryz.prog w base spare held 25 v d p)(hB:Rows.uptoBulk d<=1048576):∃(m:zec) (a1 a2:Option Addr) (c1 c2:Nat),v=.agg #[.slice a1 m.input.length c1,.slice a2 m.layers.length c2]/\m.layers.length<=c2/\zah w Any a1 m.input/\zaK w a2 m.layers/\zqO w a2 m.layers/\(∀l∈m.layers,zQ l)/\∀l∈m.layers,zbF l:=by
 obtain⟨f0,f1,hs,hone,t0,t1⟩:=Tryz.model_parts;obtain⟨cs,ys,n,rfl,hcl,hyl,hd,hf⟩:=zjW hs hone Yb hv h;obtain⟨v0,v1,rfl⟩:=zsT hcl;obtain⟨c0,y0,e0,_,g0⟩:=hf 0 f0 rfl;obtain⟨c1,y1,e1,hy1,g1⟩:=hf 1 f1 rfl;simp only[Zf,Zc,ZaG]at e0 e1;subst e0 e1;rw[t0]at g0;rw[t1]at g1;obtain⟨a0,l0,m0,q0,i0,b0',_⟩:=zkg Tryz.underlying22 Tryz.underlying3 Tryz.cellsInt1 g0;simp only[List.cons.injEq,Z0]at q0;subst q0;have hb1:Rows.uptoBulk y1.1<=1048576:=by
  have:=zgI (List.mem_map_of_mem (f:=(·.1)) (Zq hy1));have h2:=zla (ys.map (·.1));rw[hd]at hB;omega
 obtain⟨a1,l1,m1,rfl,k1,i1,r1⟩:=zkx g1;have hle:=zrF g1 i1 hb1;exact⟨⟨l0,l1⟩,a0,a1,m0,m1,rfl,k1,i0,i1,zo3 g1,r1,fun l hl=>⟨(hle l hl).1,(hle l hl).2⟩⟩
theorem zmy{r:Reach}{b0:Nat}{v:Value}{d:DataW H}{p:List MemPlace}(hv:Value.okWide Tryz.prog w r b0 35 v)
 (h:DataW.Trod enc Tryz.prog w base spare held 35 v d p)(hB:Rows.uptoBulk d<=1048576):∃(L:List zaf) (a:Option Addr) (c:Nat),v=.slice a L.length c/\L.length<=c/\zm w a L/\∀x∈L,zD x 1048576:=by
 obtain⟨a0,len0,cap0,rfl⟩:=okWide_slice Tryz.underlying35 hv;obtain⟨fuel,hf⟩:=h;have hf':DataW.trod enc Tryz.prog w base spare held fuel 35 [.slice a0 len0 cap0]=some (d,p):=hf;obtain⟨a,L,k,e,hL⟩:=zgv hf';cases e;exact⟨L,a0,cap0,rfl,zlj hf',hL,fun x hx=>(zku hf' hL x hx).le hB⟩
end
end Go.Proofs.YtfgmmghmmfmdgaaGreat
namespace Go.Proofs.YtfgmmghmmfmdgaaGreat
open Go.RowKit
open Go.Lib (hid)
section
variable {α:Type}
structure zf5 (P:World->Value->Value->Value->Value->α->Prop) (w:World) (a:Option Addr) (L:List α):Prop where
 len:L.length<=9223372036854775807
 row:L=[] ∨ ∃b off,a=some ⟨b,off,none⟩/\b<w.heap.size/\∀(j:Nat) (x:α),L[j]? =some x->∃p0 p1 p2 p3,w.cell? ⟨b,off+j*4,none⟩=some p0/\w.cell? ⟨b,off+j*4+1,none⟩=some p1/\w.cell? ⟨b,off+j*4+2,none⟩=some p2/\w.cell? ⟨b,off+j*4+3,none⟩=some p3/\P w p0 p1 p2 p3 x
structure zfh (P:World->Value->Value->Value->Value->α->Prop) (p:Value->Bool):Prop where
 below:∀{w w':World} {p0 p1 p2 p3:Value} {x:α},P w p0 p1 p2 p3 x->Below w.heap.size w w'->P w' p0 p1 p2 p3 x
 grown:∀{w w':World} {v p0 p1 p2 p3:Value} {x:α},P w p0 p1 p2 p3 x->w.grownBy w' v.ownBlock->zhj p w v->P w' p0 p1 p2 p3 x
 one:∀{w:World} {p0 p1 p2 p3:Value} {x:α},P w p0 p1 p2 p3 x->∀u∈[p0,p1,p2,p3],u.oneCell'=true/\p u=true
variable {P:World->Value->Value->Value->Value->α->Prop} {p:Value->Bool}
theorem zf5.nil(w:World)(a:Option Addr):zf5 P w a []:=⟨Zs _,.inl rfl⟩
theorem zf5.below{w w':World}{a:Option Addr}{L:List α}(h:zf5 P w a L)(hP:zfh P p)(hb:Below w.heap.size w w'):zf5 P w' a L:=by
 refine⟨h.len,h.row.imp id ?_⟩
 rintro⟨b,off,rfl,hs,hc⟩
 refine⟨b,off,rfl,Zb hs hb.size,fun j x hj=>?_⟩
 obtain⟨p0,p1,p2,p3,h0,h1,h2,h3,h4⟩:=hc j x hj;exact⟨p0,p1,p2,p3,(hb.cell hs).trans h0,(hb.cell hs).trans h1,(hb.cell hs).trans h2,(hb.cell hs).trans h3,hP.below h4 hb⟩
theorem zf5.pick{w:World}{a:Option Addr}{L:List α}(h:zf5 P w a L){k:Nat}(hk:k<L.length):
  ∃b off x p0 p1 p2 p3,a=some ⟨b,off,none⟩/\b<w.heap.size/\L[k]? =some x/\w.cell? ⟨b,off+k*4,none⟩=some p0/\w.cell? ⟨b,off+k*4+1,none⟩=some p1/\w.cell? ⟨b,off+k*4+2,none⟩=some p2/\w.cell? ⟨b,off+k*4+3,none⟩=some p3/\P w p0 p1 p2 p3 x:=by
 rcases h.row with rfl|⟨b,off,rfl,hb,hc⟩
 ·simp at hk
 ·have hd:L[k]? =some L[k]:=JR;obtain⟨p0,p1,p2,p3,h0,h1,h2,h3,h4⟩:=hc k _ hd;exact⟨b,off,L[k],p0,p1,p2,p3,rfl,hb,hd,h0,h1,h2,h3,h4⟩
theorem zf5.drop{w:World}{b off:Nat}{L:List α}(h:zf5 P w (some ⟨b,off,none⟩) L)(k:Nat):zf5 P w (some ⟨b,off+k*4,none⟩) (L.drop k):=by
 refine⟨by have:=h.len;rw[Za6];omega,?_⟩
 rcases h.row with rfl|⟨b',off',e,hb,hc⟩
 ·exact .inl Yc
 ·cases e
  refine .inr ⟨b,off+k*4,rfl,hb,fun j x hj=>?_⟩
  rw[List.getElem?_drop]at hj;obtain⟨p0,p1,p2,p3,h0,h1,h2,h3,h4⟩:=hc (k+j) x hj;have e:off+k*4+j*4=off+(k+j)*4:=by rw[ZK];omega
  rw[e];exact⟨p0,p1,p2,p3,h0,h1,h2,h3,h4⟩
theorem zf5.take{w:World}{a:Option Addr}{L:List α}(h:zf5 P w a L)(k:Nat):zf5 P w a (L.take k):=by
 refine⟨by have:=h.len;rw[Z8];omega,?_⟩
 rcases h.row with rfl|⟨b,off,rfl,hb,hc⟩
 ·exact .inl Yc
 ·refine .inr ⟨b,off,rfl,hb,fun j x hj=>hc j x ?_⟩
  have hlt:=(Zr.1 hj).1;rw[Z8]at hlt;rw[ZaZ Ya]at hj;exact hj
structure zdT (P:World->Value->Value->Value->Value->α->Prop) (p:Value->Bool) (T:TypeId) (w:World) (base:Nat) (v:Value) (L:List α):Prop where
 ex:∃xs,w.ownsRow base T 4 v L.length xs/\∀(j:Nat) (x:α),L[j]? =some x->∃p0 p1 p2 p3,xs[j*4]? =some p0/\xs[j*4+1]? =some p1/\xs[j*4+2]? =some p2/\xs[j*4+3]? =some p3/\P w p0 p1 p2 p3 x
 al:zhj p w v
variable {T:TypeId}
theorem zdT.nil(w:World)(base:Nat):zdT P p T w base (.slice none 0 0) []:=⟨⟨[],Zaw _ _ _ _,Yc⟩,Vq⟩
theorem zdT.lt{w:World}{base:Nat}{v:Value}{L:List α}(h:zdT P p T w base v L){k:Nat}(hk:v.ownBlock=some k):base<=k/\k<w.heap.size:=Ip
theorem zdT.below{w w':World}{base:Nat}{v:Value}{L:List α}(h:zdT P p T w base v L)(hP:zfh P p)(hb:Below w.heap.size w w'):zdT P p T w' base v L:=by
 obtain⟨xs,ho,he⟩:=h.ex
 refine⟨⟨xs,ho.kept (row:=none) ⟨hb.os,hb.tape,hb.output,hb.size,fun k hk _=>hb.block k hk⟩ Xh,fun j x hj=>?_⟩,fun g hg=>(h.al g hg).below hb (h.lt hg).2⟩
 obtain⟨p0,p1,p2,p3,h0,h1,h2,h3,h4⟩:=he j x hj;exact⟨p0,p1,p2,p3,h0,h1,h2,h3,hP.below h4 hb⟩
theorem zdZ{w:World}{base T n:Nat}{v:Value}{xs:List Value}(h:w.ownsRow base T 4 v n xs):∃a c,v=.slice a n c/\n<=c:=TH
theorem zdT.form{w:World}{base:Nat}{v:Value}{L:List α}(h:zdT P p T w base v L):∃a c,v=.slice a L.length c/\L.length<=c:=by
 obtain⟨xs,ho,_⟩:=h.ex;exact zdZ ho
theorem zdT.read{w:World}{base:Nat}{a:Option Addr}{n c:Nat}{L:List α}(h:zdT P p T w base (.slice a n c) L)(hl:L.length<=9223372036854775807):zf5 P w a L:=by
 obtain⟨xs,ho,he⟩:=h.ex
 rcases ho.2 with⟨e,hn⟩|⟨g,cap,cur,e,hb,hg,hnc,hcm,hcs,htake⟩
 ·exact I4
 exact UJ
structure zfp (P:World->Value->Value->Value->Value->α->Prop) (w:World) (v:Value) (x:α):Prop where
 ex:∃g p0 p1 p2 p3,v=.slice (some ⟨g,0,none⟩) 1 1/\g<w.heap.size/\w.cell? ⟨g,0,none⟩=some p0/\w.cell? ⟨g,1,none⟩=some p1/\w.cell? ⟨g,2,none⟩=some p2/\w.cell? ⟨g,3,none⟩=some p3/\P w p0 p1 p2 p3 x
theorem zfp.alloc{w:World}{p0 p1 p2 p3:Value}{x:α}(hP:zfh P p)(h:P w p0 p1 p2 p3 x)(T:Nat):zfp P (w.alloc (.cells #[p0,p1,p2,p3] T)) (.slice (some ⟨w.heap.size,0,none⟩) 1 1) x:=by
 have hb:Below w.heap.size w (w.alloc (.cells #[p0,p1,p2,p3] T)):=(Ze _ w).alloc (Za _) _;exact⟨w.heap.size,p0,p1,p2,p3,rfl,Yc,by rw[World.cell?_alloc_at _ _ _ _ rfl];rfl,by rw[World.cell?_alloc_at _ _ _ _ rfl];rfl,by rw[World.cell?_alloc_at _ _ _ _ rfl];rfl,by rw[World.cell?_alloc_at _ _ _ _ rfl];rfl,hP.below h hb⟩
theorem zfp.below{w w':World}{v:Value}{x:α}(h:zfp P w v x)(hP:zfh P p)(hb:Below w.heap.size w w'):zfp P w' v x:=by
 obtain⟨g,p0,p1,p2,p3,e,hg,h0,h1,h2,h3,h4⟩:=h.ex;exact⟨g,p0,p1,p2,p3,e,Zb hg hb.size,(hb.cell (p:=⟨g,0,none⟩) hg).trans h0,(hb.cell (p:=⟨g,1,none⟩) hg).trans h1,(hb.cell (p:=⟨g,2,none⟩) hg).trans h2,(hb.cell (p:=⟨g,3,none⟩) hg).trans h3,hP.below h4 hb⟩
theorem zdT.app{w w':World}{base:Nat}{v v':Value}{L:List α}{x:α}{p0 p1 p2 p3:Value}{xs:List Value}(hP:zfh P p)(h:zdT P p T w base v L)
 (he:∀(j:Nat) (x:α),L[j]? =some x->∃p0 p1 p2 p3,xs[j*4]? =some p0/\xs[j*4+1]? =some p1/\xs[j*4+2]? =some p2/\xs[j*4+3]? =some p3/\P w p0 p1 p2 p3 x)(hxl:xs.length=L.length*4)(hx:P w p0 p1 p2 p3 x)
 (hown:w'.ownsRow base T 4 v' (L.length+1) (xs++[p0,p1,p2,p3]))(hg:w.grownBy w' v.ownBlock)(hno:zhj p w' v'):zdT P p T w' base v' (L++[x]):=by
 refine⟨⟨_,VK,fun j y hj=>?_⟩,hno⟩
 by_cases hlt:j<L.length
 ·rw[Zz hlt]at hj;obtain⟨r0,r1,r2,r3,q0,q1,q2,q3,q4⟩:=he j y hj
  refine⟨r0,r1,r2,r3,?_,?_,?_,?_,hP.grown q4 hg h.al⟩
  ·rw[Zz Ya];exact q0
  ·rw[Zz Ya];exact q1
  ·rw[Zz Ya];exact q2
  ·rw[Zz Ya];exact q3
 ·have hlt':=(Zr.1 hj).1;simp only[ZE,ZH,Zax]at hlt';obtain rfl:j=L.length:=Ya;have e2:y=x:=JV;subst e2
  refine⟨p0,p1,p2,p3,?_,?_,?_,?_,hP.grown hx hg h.al⟩
  ·rw[ZI Ya];simp[hxl]
  ·rw[ZI Ya,show L.length*4+1-xs.length=1 from Ya];rfl
  ·rw[ZI Ya,show L.length*4+2-xs.length=2 from Ya];rfl
  ·rw[ZI Ya,show L.length*4+3-xs.length=3 from Ya];rfl
theorem zeF{Pr:Program}{w:World}{ops:Array Oper}{rest:List Oper}{o:Oper}{a:Act}{Q:Exit->Act->World->Prop}(hP:zfh P p)(z0 z1 z2 z3:Value)(bytes:Nat)(hz:∀u∈[z0,z1,z2,z3],p u=true)(hgd:o.guard=none)(s x:Operand)(t:TypeId)
 (ho:o.op=.call { callee:=.builtin .append,args:=#[s,x],argTypes:=#[t,t] })
 (base:Nat)(ht:Pr.underlying t=some (.slice T))(hinfo:(Pr.info? T).map (fun i=>(i.zero,i.size,i.bytes))=some (some (.agg #[z0,z1,z2,z3]),4,bytes))(hby2:bytes<=80)
 (v:Value)(n:Nat)(L:List α)(hn:L.length=n)(hs:a.eval s=v)(hown:zdT P p T w base v L)(u:Value)(y:α)(hu:zfp P w u y)
 (hx:a.eval x=u)(hL:n+1<=1000000000000)(hbase:base<=w.heap.size)
 (h:∀b k w',zdT P p T w' base (.slice b (n+1) k) (L++[y])->n+1<=k->w.grownBy w' v.ownBlock->Below base w w'->zi7 w v (.slice b (n+1) k)->wpList Pr ops Q rest (a.put o.dst (.slice b (n+1) k)) w'):
  wpList Pr ops Q (o::rest) a w:=by
 subst hn
 refine wpList_plain hgd fun K hK=>?_
 obtain⟨i,hi,hzz,hsize,hby⟩:=info_parts hinfo;obtain⟨xs,hox,he⟩:=hown.ex;obtain⟨g,p0,p1,p2,p3,rfl,hg,c0,c1,c2,c3,hy⟩:=hu.ex;have hcells:∀(j:Nat) (u:Value),[p0,p1,p2,p3][j]? =some u->w.cell? (Addr.add ⟨g,0,none⟩ j)=some u:=by
  intro j u hj;rw[Zaq]
  match j,hj with
  | 0,hj=>rw[<- hj];exact c0
  | 1,hj=>rw[<- hj];exact c1
  | 2,hj=>rw[<- hj];exact c2
  | 3,hj=>rw[<- hj];exact c3
 obtain⟨v',w',hr,r2,r3,r4,r5⟩:=zc5 (P:=Pr) p w base t o.type _ i _ 4 bytes ht hi hzz hsize hby Kk Ya v L.length xs hox ⟨g,0,none⟩ 1 1
  [p0,p1,p2,p3] rfl hcells (fun u hu=>(hP.one hy u hu).1) Ya Yf
  (Zi (ZQ _ hby2) Ya) hbase
  hown.al (fun u hu=>(hP.one hy u hu).2) (by intro u hu;simp[Value.cells]at hu;exact hz u XV)
 have hO:=hown.app (x:=y) (w':=w') (v':=v') (xs:=xs) hP he hox.1 hy r2 r3 r5;have hbe:Below base w w':=(Ze base w).grown r3 hbase (fun k hk=>(hown.lt hk).1);obtain⟨b,k,e,hk⟩:=zdZ r2;exact Ei
end
structure zbU (w:World) (p1 p2 p3:Value) (q:Rat):Prop where
 ex:∃an ad cn cd,p1=.bool (zc q).neg/\p2=.slice an (zc q).num.length cn/\p3=.slice ad (zc q).den.length cd/\(zc q).num.length<=cn/\(zc q).den.length<=cd/\zw w an (zc q).num/\zw w ad (zc q).den
theorem zbU.below{w w':World}{p1 p2 p3:Value}{q:Rat}(h:zbU w p1 p2 p3 q)(hb:Below w.heap.size w w'):zbU w' p1 p2 p3 q:=by
 obtain⟨an,ad,cn,cd,e1,e2,e3,l1,l2,u1,u2⟩:=h.ex;exact⟨an,ad,cn,cd,e1,e2,e3,l1,l2,u1.below hb,u2.below hb⟩
theorem zbU.grown{w w':World}{v p1 p2 p3:Value}{q:Rat}(h:zbU w p1 p2 p3 q)(hg:w.grownBy w' v.ownBlock)(hn:NoO w v):zbU w' p1 p2 p3 q:=by
 obtain⟨an,ad,cn,cd,e1,e2,e3,l1,l2,u1,u2⟩:=h.ex;exact⟨an,ad,cn,cd,e1,e2,e3,l1,l2,u1.grown hg hn,u2.grown hg hn⟩
theorem zbU.val{w:World}{p1 p2 p3:Value}{q:Rat}(h:zbU w p1 p2 p3 q):RatV w (.agg #[p1,p2,p3]) (zc q):=by
 obtain⟨an,ad,cn,cd,rfl,rfl,rfl,l1,l2,u1,u2⟩:=h.ex;exact⟨an,ad,cn,cd,rfl,l1,l2,u1,u2⟩
theorem zbU.of{w:World}{v:Value}{q:Rat}(h:RatV w v (zc q)):∃p1 p2 p3,v=.agg #[p1,p2,p3]/\zbU w p1 p2 p3 q:=by
 obtain⟨an,ad,cn,cd,rfl,l1,l2,u1,u2⟩:=h.ex;exact⟨_,_,_,rfl,an,ad,cn,cd,rfl,rfl,rfl,l1,l2,u1,u2⟩
theorem zhj.noI{w:World}{v:Value}(h:zhj noI w v):NoO w v:=fun g hg o x e=>by have:=h g hg o _ e;cases this
def zes(w:World)(p0 p1 p2 p3:Value)(t:Nat×Rat):Prop:=p0=.int .i64 (t.1:Int)/\zbU w p1 p2 p3 t.2
theorem zby:zfh zes noI where
 below:=fun⟨e,h⟩ hb=>⟨e,h.below hb⟩
 grown:=fun⟨e,h⟩ hg ha=>⟨e,h.grown hg ha.noI⟩
 one:=by
  rintro w p0 p1 p2 p3 x ⟨rfl,h⟩ u hu;exact Ic
abbrev zag(w:World)(a:Option Addr)(L:List (Nat×Rat)):Prop:=zf5 zes w a L
def zco(v:Value):Bool:=match v with | .slice _ _ _=>true | .bool _=>true|_=>false
theorem zhj.bs{w:World}{v:Value}(h:zhj zco w v):NoO w v:=fun g hg o x e=>by have:=h g hg o _ e;cases this
theorem zkd{w w':World}{a:Option Addr}{L:List (Nat×Rat)}{v:Value}(h:zag w a L)(hg:w.grownBy w' v.ownBlock)(hn:zhj zco w v):zag w' a L:=by
 refine⟨h.len,?_⟩
 rcases h.row with rfl|⟨b,off,rfl,hb,hc⟩
 ·exact .inl rfl
 ·by_cases hL:L=[]
  ·exact .inl hL
  ·have hp:=ZJ.2 hL;have hne:some b≠v.ownBlock:=by
    intro e;obtain⟨p0,p1,p2,p3,h0,_,_,_,h4⟩:=hc 0 L[0] (Zh hp);rw[h4.1]at h0;have:=hn b e.symm _ _ h0;cases this
   refine .inr ⟨b,off,rfl,Zb hb hg.size,fun j x hj=>?_⟩
   obtain⟨p0,p1,p2,p3,h0,h1,h2,h3,h4⟩:=hc j x hj;have hcell:∀o,w'.cell? ⟨b,o,none⟩=w.cell? ⟨b,o,none⟩:=fun o=>ZS (hg.block b hb hne)
   exact⟨p0,p1,p2,p3,(hcell _).trans h0,(hcell _).trans h1,(hcell _).trans h2,(hcell _).trans h3,h4.1,h4.2.grown hg hn.bs⟩
def zaL(w:World)(p0 p1 p2 p3:Value)(f:zl):Prop:=(∃a c,p0=.slice a f.ts.length c/\f.ts.length<=c/\zag w a f.ts)/\zbU w p1 p2 p3 f.c
theorem zaX:zfh zaL zco where
 below:=fun⟨⟨a,c,e,hc,h⟩,k⟩ hb=>⟨⟨a,c,e,hc,h.below zby hb⟩,k.below hb⟩
 grown:=fun⟨⟨a,c,e,hc,h⟩,k⟩ hg ha=>⟨⟨a,c,e,hc,zkd h hg ha⟩,k.grown hg ha.bs⟩
 one:=by
  rintro w p0 p1 p2 p3 x ⟨⟨a,c,rfl,_,_⟩,h⟩ u hu;exact Ic
abbrev zaz(w:World)(a:Option Addr)(L:List zl):Prop:=zf5 zaL w a L
structure zap (w:World) (v:Value) (f:zl):Prop where
 ex:∃p0 p1 p2 p3,v=.agg #[p0,p1,p2,p3]/\zaL w p0 p1 p2 p3 f
theorem zap.below{w w':World}{v:Value}{f:zl}(h:zap w v f)(hb:Below w.heap.size w w'):zap w' v f:=by
 obtain⟨p0,p1,p2,p3,e,k⟩:=h.ex;exact⟨p0,p1,p2,p3,e,zaX.below k hb⟩
theorem zap.parts{w:World}{v:Value}{f:zl}(h:zap w v f):∃a c an ad cn cd,v=.agg #[.slice a f.ts.length c,.bool (zc f.c).neg,.slice an (zc f.c).num.length cn,.slice ad (zc f.c).den.length cd]/\f.ts.length<=c/\zag w a f.ts/\
  (zc f.c).num.length<=cn/\(zc f.c).den.length<=cd/\zw w an (zc f.c).num/\zw w ad (zc f.c).den:=by
 obtain⟨p0,p1,p2,p3,rfl,⟨a,c,rfl,hc,ht⟩,hr⟩:=h.ex;obtain⟨an,ad,cn,cd,rfl,rfl,rfl,l1,l2,u1,u2⟩:=hr.ex;exact⟨a,c,an,ad,cn,cd,rfl,hc,ht,l1,l2,u1,u2⟩
def za2(w:World)(f:zl)(e:Ending)(w':World):Prop:=∃v,e=.returned v/\zap w' v f/\Below w.heap.size w w'
abbrev apF{w:World}{ops:Array Oper}{rest:List Oper}{o:Oper}{a:Act}{Q:Exit->Act->World->Prop}(hgd:o.guard=none)(s x:Operand)(ho:o.op=.call {callee:=.builtin .append,args:=#[s,x],argTypes:=#[28,28]})(base:Nat):=zeF (Pr:=Tryz.prog) (w:=w) (ops:=ops) (rest:=rest) (o:=o) (a:=a) (Q:=Q) (T:=53) zaX (.slice none 0 0) (.bool false) (.slice none 0 0) (.slice none 0 0) 80 Xx hgd s x 28 ho base Tryz.underlying28 Yb Ya
def scA(k:Rat)(f:zl):zl:=zbi k zcB f
def zdq(b:Rat)(ws:List Rat)(off:Nat)(ix:List Int)(x:List zl):Nat->zl
 | 0=>zoP b
 | k+1=>if 0<=ix.getD k 0 then zbi 1 (zdq b ws off ix x k) (scA (ws.getD (off+k) 0) (x.getD (ix.getD k 0).toNat zcB))else zdq b ws off ix x k
def zhw(l:List zl):Nat->zl
 | 0=>zcB
 | k+1=>zbi 1 (zhw l k) (l.getD k zcB)
def zfP(l:List zl):zl:=scA (1/((l.length:Int):Rat)) (zhw l l.length)
def zcr(nI:Nat)(U:List zl)(f:zl):List zl×zl:=(U++[f],zbv (nI+U.length))
def zZ(nI:Nat):Nat->List zl->List zl->List zl×zl
 | 0,U,l=>(U,l.getD 0 zcB)
 | fuel+1,U,l=>
  if l.length<=1 then(U,l.getD 0 zcB)else
   ((zcr nI (zZ nI fuel (zZ nI fuel U (l.take ((l.length + 1) / 2))).1 (l.drop ((l.length + 1) / 2))).1
     (zbi (-1) (zZ nI fuel (zZ nI fuel U (l.take ((l.length+1)/2))).1 (l.drop ((l.length+1)/2))).2 (zZ nI fuel U (l.take ((l.length+1)/2))).2)).1,
     zbi 1 (zZ nI fuel U (l.take ((l.length+1)/2))).2
      (zcr nI (zZ nI fuel (zZ nI fuel U (l.take ((l.length+1)/2))).1 (l.drop ((l.length+1)/2))).1
       (zbi (-1) (zZ nI fuel (zZ nI fuel U (l.take ((l.length+1)/2))).1 (l.drop ((l.length+1)/2))).2 (zZ nI fuel U (l.take ((l.length+1)/2))).2)).2)
theorem zcA{nI fuel:Nat}{U l:List zl}(h:l.length=1):zZ nI (fuel+1) U l=(U,l.getD 0 zcB):=by
 show(if l.length<=1 then(U,l.getD 0 zcB)else _)=_
 rw[Zm Ya]
theorem zb6{nI fuel:Nat}{U l U1 U2:List zl}{a b:zl}(h:2<=l.length)(h1:zZ nI fuel U (l.take ((l.length+1)/2))=(U1,a))(h2:zZ nI fuel U1 (l.drop ((l.length+1)/2))=(U2,b)):
  zZ nI (fuel+1) U l=(U2++[zbi (-1) b a],zbi 1 a (zbv (nI+U2.length))):=by
 rw[zZ,Zg Ya,h1];simp only;rw[h2];rfl
theorem zi9(nI:Nat)(U:List zl)(f:zl):∃V,(zcr nI U f).1=U++V:=⟨[f],rfl⟩
theorem zaO(nI:Nat):∀(fuel:Nat) (U l:List zl),∃V,(zZ nI fuel U l).1=U++V
 | 0,U,l=>⟨[],by simp[zZ]⟩
 | fuel+1,U,l=>by
  rw[zZ]
  split
  ·exact⟨[],Yc⟩
  ·obtain⟨V1,h1⟩:=zaO nI fuel U (l.take ((l.length+1)/2));obtain⟨V2,h2⟩:=zaO nI fuel (zZ nI fuel U (l.take ((l.length+1)/2))).1 (l.drop ((l.length+1)/2));simp only[zcr];rw[h2,h1,ZW,ZW];exact⟨_,rfl⟩
def zba(ix:List Int)(x:List zl):List zl:=ix.map fun i=>x.getD i.toNat zcB
def z7{β:Type}(f:List zl->β->List zl×zl):List β->List zl->List zl×List zl
 | [],U=>(U,[])
 | b::r,U=>((z7 f r (f U b).1).1,(f U b).2::(z7 f r (f U b).1).2)
theorem zh2{β:Type}(f:List zl->β->List zl×zl)(b:β):∀(l:List β) (U:List zl),
  z7 f (l++[b]) U=((f (z7 f l U).1 b).1,(z7 f l U).2++[(f (z7 f l U).1 b).2])
 | [],U=>rfl
 | a::r,U=>by
  show((z7 f (r++[b]) (f U a).1).1,(f U a).2::(z7 f (r++[b]) (f U a).1).2)=_
  rw[zh2 f b r];rfl
theorem zbI{β:Type}(f:List zl->β->List zl×zl):∀(l:List β) (U:List zl),(z7 f l U).2.length=l.length
 | [],_=>rfl
 | a::r,U=>by
  show(z7 f r (f U a).1).2.length+1=r.length+1
  rw[zbI f r]
def zcH(C n:Nat)(win:List (List Int)):List (List Int):=(List.range C).flatMap fun ch=>(List.range win.length).map fun i=>zas (win.getD i []) (ch*n) n
def z8(nI:Nat)(U:List zl)(l:zac)(s:List Int)(x fr:List zl):List zl×List zl:=
 if l.kind=1 then(U,(List.range l.out.toNat).map fun r=>zdq ((bq l).getD r 0) (zas (wq l) (r*x.length) x.length) 0 (zbq x.length) x x.length)
 else if l.kind=2 then(U,(List.range l.out.toNat).flatMap fun o=>(List.range (zB s l.kh l.kw l.stride l.pad).1.length).map fun i=>
  zdq ((bq l).getD o 0) (zas (wq l) (o*((s.getD 0 0).toNat*l.kh.toNat*l.kw.toNat)) ((s.getD 0 0).toNat*l.kh.toNat*l.kw.toNat)) 0 ((zB s l.kh l.kw l.stride l.pad).1.getD i []) x ((zB s l.kh l.kw l.stride l.pad).1.getD i []).length)
 else if l.kind=3 then z7 (fun U g=>zZ nI g.length U (zba g x)) (zcH (s.getD 0 0).toNat (l.kh.toNat*l.kw.toNat) (zB s l.kh l.kw l.stride 0).1) U
 else if l.kind=4 then(U,(zcH (s.getD 0 0).toNat (l.kh.toNat*l.kw.toNat) (zB s l.kh l.kw l.stride 0).1).map fun g=>zfP (zba g x))
 else if l.kind=5 then z7 (zcr nI) x U
 else if l.kind=7 then(U,(List.range x.length).map fun k=>zbi 1 (x.getD k zcB) (fr.getD k zcB))
 else(U,x)
def zat(x:List zl)(Y:List (List zl)):List zl:=Y.getLast?.getD x
def zaS(x:List zl)(Y:List (List zl))(f:Int):List zl:=if 0<=f then Y.getD f.toNat []else x
def z6(nI:Nat)(input:List Int)(x:List zl):List (List Int)->List (List zl)->List zl->List zac->List zl×List (List zl)
 | _,Y,U,[]=>(U,Y)
 | S,Y,U,l::r=>
  z6 nI input x (S++[(zL input S l).1]) (Y++[(z8 nI U l (zh input S) (zat x Y) (zaS x Y l.frm)).2]) (z8 nI U l (zh input S) (zat x Y) (zaS x Y l.frm)).1 r
structure zd6 where
 inputs:Nat
 units:List zl
 outs:List zl
def zed:zd6:=⟨0,[],[]⟩
def zhn:List zac->List (List Int)->Int
 | l::r,s::t=>(if l.kind=5 then zt s else if l.kind=3 then(l.kh*l.kw-1)*zt s else 0)+zhn r t
 | _,_=>0
def zq(n:Nat):List zl:=(List.range n).map zbv
def zch(m:zec):zd6×Int:=
 if(zI m).2.2=0 then
  (if 256<zt m.input∨1024<zhn m.layers (zI m).1∨256<zt (zh m.input (zI m).1)then(zed,8)
   else(⟨(zt m.input).toNat,(z6 (zt m.input).toNat m.input (zq (zt m.input).toNat) [] [] [] m.layers).1,
    zat (zq (zt m.input).toNat) (z6 (zt m.input).toNat m.input (zq (zt m.input).toNat) [] [] [] m.layers).2⟩,0))
 else(zed,(zI m).2.2)
def zlu(m:zec):Int×Int:=if(zI m).2.2=0 then(zhn m.layers (zI m).1,0)else(0,(zI m).2.2)
def zbc(v:Nat)(q:Rat):List (Nat×Rat):=if q=0 then[]else[(v,q)]
def zex:List (Nat×Rat)->Nat->Rat->List (Nat×Rat)
 | [],v,q=>zbc v q
 | (u,p)::r,v,q=>if u=v then zbc v (p+q)++r else if v<u then zbc v q++(u,p)::r else(u,p)::zex r v q
theorem zgk(v:Nat)(q:Rat)(u:Nat):zM (zbc v q) u=if v=u then q else 0:=by
 unfold zbc
 split
 ·rename_i h;rw[h];split<;>rfl
 ·rfl
theorem ziT(v:Nat)(q:Rat):zbB (zbc v q) v:=by
 unfold zbc
 split
 ·trivial
 ·rename_i h;exact⟨Za _,h,trivial⟩
theorem zfH(v:Nat)(q:Rat):zcM (zbc v q)<=v+1:=by
 unfold zbc
 split
 ·exact Zs _
 ·show max (v+1) 0<=v+1;omega
theorem zgo:∀{l:List (Nat×Rat)} {lo:Nat} (v:Nat) (q:Rat),zbB l lo->zbB (zex l v q) (min lo v)
 | [],lo,v,q,_=>(ziT v q).mono Ya
 | (u,p)::r,lo,v,q,⟨h1,h2,h3⟩=>by
  show zbB (if u=v then zbc v (p+q)++r else if v<u then zbc v q++(u,p)::r else(u,p)::zex r v q) (min lo v)
  split
  ·rename_i h
   subst h;exact(zgV (ziT u (p+q)) h3 (zfH u _) Ya).mono Ya
  ·split
   ·rename_i h
    exact(zgV (m:=(u,p)::r) (lo':=u) (ziT v q) ⟨Za _,h2,h3⟩ (Zi (zfH v q) h) Ya).mono Ya
   ·refine⟨Ya,h2,?_⟩
    exact(zgo v q h3).mono Ya
theorem zg5:∀{l:List (Nat×Rat)} {lo:Nat} (v:Nat) (q:Rat),zbB l lo->∀u,zM (zex l v q) u=zM l u+(if v=u then q else 0)
 | [],_,v,q,_,u=>by
  show zM (zbc v q) u=0+_
  rw[zgk,Za4]
 | (w,p)::r,lo,v,q,⟨h1,h2,h3⟩,u=>by
  show zM (if w=v then zbc v (p+q)++r else if v<w then zbc v q++(w,p)::r else(w,p)::zex r v q) u=_
  by_cases e1:w=v
  ·subst e1;rw[Zm rfl,zeR h3 (zfH w _),zgk,zbr w p r (lo:=0) h3 u]
   split<;>grind
  ·rw[Zg e1]
   by_cases e2:v<w
   ·rw[Zm e2,zeR (m:=(w,p)::r) (lo:=w) ⟨Za _,h2,h3⟩ (Zi (zfH v q) e2),zgk]
    grind
   ·rw[Zg e2];have hc:zbB (zex r v q) (w+1):=(zgo v q h3).mono Ya;rw[zbr w p (zex r v q) (lo:=0) hc u,zbr w p r (lo:=0) h3 u,zg5 v q h3 u]
    grind
def zrX(l:List (Nat×Rat))(v:Nat):Prop:=∀t∈l,t.1<v
theorem zgm:∀{a b:List (Nat×Rat)} {v:Nat} {q:Rat},zrX a v->zex (a++b) v q=a++zex b v q
 | [],_,_,_,_=>rfl
 | (u,p)::r,b,v,q,h=>by
  have hu:u<v:=h (u,p) Yc;show(if u=v then zbc v (p+q)++(r++b)else if v<u then zbc v q++(u,p)::(r++b)else(u,p)::zex (r++b) v q)=_
  rw[Zg Ya,Zg Ya,zgm (fun t ht=>h t (by simp[ht]))];rfl
theorem zrA{a r:List (Nat×Rat)}{v:Nat}{p q:Rat}(h:zrX a v):zex (a++(v,p)::r) v q=(a++zbc v (p+q))++r:=by
 rw[zgm h];show a++(if v=v then zbc v (p+q)++r else _)=_
 rw[Zm rfl,ZW]
theorem zrt{a r:List (Nat×Rat)}{u v:Nat}{p q:Rat}(h:zrX a v)(hu:v<u):zex (a++(u,p)::r) v q=(a++zbc v q)++(u,p)::r:=by
 rw[zgm h];show a++(if u=v then _ else if v<u then zbc v q++(u,p)::r else _)=_
 rw[Zg Ya,Zm hu,ZW]
theorem zpi{a:List (Nat×Rat)}{v:Nat}{q:Rat}(h:zrX a v):zex a v q=a++zbc v q:=by
 have:=zgm (b:=[]) (q:=q) h;rw[ZaK]at this;exact this
def zdb(f:List (Nat×Rat)):List (Nat×Rat)->List (Nat×Rat)
 | []=>f
 | (v,q)::r=>zdb (zex f v q) r
theorem zfD:∀(f g:List (Nat×Rat)) (v:Nat) (q:Rat),zdb f (g++[(v,q)])=zex (zdb f g) v q
 | _,[],_,_=>rfl
 | f,(u,p)::r,v,q=>zfD (zex f u p) r v q
theorem zdk:∀{f g:List (Nat×Rat)},zbB f 0->zbB (zdb f g) 0
 | _,[],h=>h
 | f,(v,q)::r,h=>zdk (g:=r) ((zgo v q h).mono (Zs _))
theorem zfF:∀{f g:List (Nat×Rat)} {lo:Nat},zbB f 0->zbB g lo->∀u,zM (zdb f g) u=zM f u+zM g u
 | f,[],_,_,_,u=>by show zM f u=zM f u+0;rw[Za5]
 | f,(v,q)::r,lo,h,⟨g1,g2,g3⟩,u=>by
  show zM (zdb (zex f v q) r) u=_
  rw[zfF ((zgo v q h).mono (Zs _)) g3 u,zg5 v q h u,zbr v q r (lo:=0) g3 u]
  grind
theorem zoE{f g:List (Nat×Rat)}(hf:zbB f 0)(hg:zbB g 0):zdb f g=zfm 1 f g:=
 zfQ (zdk hf) (fun v=>by rw[zfF hf hg v,Zbn])
def zmB(k:Rat):List (Nat×Rat)->List (Nat×Rat)
 | []=>[]
 | (u,p)::r=>zbc u (p*k)++zmB k r
theorem zjh(k:Rat)(u:Nat)(p:Rat):∀l:List (Nat×Rat),zmB k (l++[(u,p)])=zmB k l++zbc u (p*k)
 | []=>by show zbc u (p*k)++[]=[]++zbc u (p*k);rw[ZaK,ZaV]
 | (w,q)::r=>by
  show zbc w (q*k)++zmB k (r++[(u,p)])=(zbc w (q*k)++zmB k r)++zbc u (p*k)
  rw[zjh k u p r,ZW]
theorem zig(k:Rat):∀{l:List (Nat×Rat)} {lo:Nat},zbB l lo->zbB (zmB k l) lo
 | [],_,_=>trivial
 | (u,p)::r,lo,⟨h1,h2,h3⟩=>(zgV (ziT u (p*k)) (zig k h3) (zfH u _) Ya).mono h1
theorem zjz(k:Rat):∀{l:List (Nat×Rat)} {lo:Nat},zbB l lo->∀v,zM (zmB k l) v=k*zM l v
 | [],_,_,v=>by show(0:Rat)=k*0;rw[Rat.mul_zero]
 | (u,p)::r,lo,⟨h1,h2,h3⟩,v=>by
  show zM (zbc u (p*k)++zmB k r) v=_
  rw[zeR (zig k h3) (zfH u _),zgk,zjz k h3 v,zbr u p r (lo:=0) h3 v]
  split<;>grind
theorem zo1{k:Rat}{l:List (Nat×Rat)}(h:zbB l 0):zmB k l=zfm k [] l:=
 zfQ (zig k h) (fun v=>by rw[zjz k h v];show _=0+_;rw[Za4])
theorem zrC{f g:List (Nat×Rat)}:zfm 1 f (zfm (-1) [] g)=zfm (-1) f g:=
 zfQ (zgl _ _ _) (fun v=>by rw[za3,za3];show _+1*(0+ -1*_)=_;grind)
theorem zp3(f g:zl):zbi 1 f (scA (-1) g)=zbi (-1) f g:=by
 unfold scA zbi zcB;simp only;rw[zrC]
 congr 1
 grind
structure zbl (w:World) (g:Nat) (p0 p1 p2 p3:Value):Prop where
 c0:w.cell? ⟨g,0,none⟩=some p0
 c1:w.cell? ⟨g,1,none⟩=some p1
 c2:w.cell? ⟨g,2,none⟩=some p2
 c3:w.cell? ⟨g,3,none⟩=some p3
 free:∀o,w.frozen? ⟨g,o,none⟩=false
 lt:g<w.heap.size
inductive Sq where
 | val (v:Value)
 | rat (q:Rat)
 | trm (v:Nat) (q:Rat)
 | one (v:Nat) (q:Rat)
 | frm (f:zl)
 | onf (f:zl)
 | new4 (B:Nat)
 | num (q:Rat)
def GQ(L:List Sq)(i:Nat)(v:Value)(w:World):Prop:=
 match L[i]? with
 | some (.val x)=>v=x
 | some (.rat q)=>RatV w v (zc q)
 | some (.trm u q)=>∃p1 p2 p3,v=.agg #[.int .i64 (u:Int),p1,p2,p3]/\zbU w p1 p2 p3 q
 | some (.one u q)=>zfp zes w v (u,q)
 | some (.frm f)=>zap w v f
 | some (.onf f)=>zfp zaL w v f
 | some (.new4 B)=>∃b,v=.pointer (some ⟨b,0,none⟩)/\B<=b/\zbl w b (.slice none 0 0) (.bool false) (.slice none 0 0) (.slice none 0 0)/\zX w b
 | some (.num q)=>∃p1 p2 p3,v=.agg #[.slice none 0 0,p1,p2,p3]/\zbU w p1 p2 p3 q
 | none=>True
theorem zbl.belowB{w w':World}{g B:Nat}{p0 p1 p2 p3:Value}(h:zbl w g p0 p1 p2 p3)(hb:Below B w w')(hg:g<B):zbl w' g p0 p1 p2 p3:=
 ⟨(hb.cell (p:=⟨g,0,none⟩) hg).trans h.c0,(hb.cell (p:=⟨g,1,none⟩) hg).trans h.c1,(hb.cell (p:=⟨g,2,none⟩) hg).trans h.c2,(hb.cell (p:=⟨g,3,none⟩) hg).trans h.c3,fun o=>(hb.frozen (p:=⟨g,o,none⟩) hg).trans (h.free o),Zb h.lt hb.size⟩
theorem zbl.below{w w':World}{g:Nat}{p0 p1 p2 p3:Value}(h:zbl w g p0 p1 p2 p3)(hb:Below w.heap.size w w'):zbl w' g p0 p1 p2 p3:=h.belowB hb h.lt
theorem zaV{L:List Sq}{i:Nat}{v:Value}{w w':World}(h:GQ L i v w)(hb:Below w.heap.size w w'):GQ L i v w':=by
 unfold GQ at h⊢
 split
 ·exact IN
 ·rename_i x hx;rw[hx]at h;exact RatV.below h hb
 ·rename_i x y hx;rw[hx]at h;obtain⟨p1,p2,p3,e,k⟩:=h;exact⟨p1,p2,p3,e,k.below hb⟩
 ·rename_i x y hx;rw[hx]at h;exact zfp.below h zby hb
 ·rename_i x hx;rw[hx]at h;exact zap.below h hb
 ·rename_i x hx;rw[hx]at h;exact zfp.below h zaX hb
 ·exact It
 ·rename_i x hx;rw[hx]at h;obtain⟨p1,p2,p3,e,k⟩:=h;exact⟨p1,p2,p3,e,k.below hb⟩
 ·trivial
theorem zbl.alloc(w:World)(p0 p1 p2 p3:Value)(T:Nat):zbl (w.alloc (.cells #[p0,p1,p2,p3] T)) w.heap.size p0 p1 p2 p3:=by
 refine⟨?_,?_,?_,?_,fun o=>Za2 _ _ _ _,Yc⟩<;>(rw[World.cell?_alloc_at _ _ _ _ rfl];rfl)
theorem zbl.far{w:World}{g h:Nat}{p0 p1 p2 p3:Value}(hb:zbl w g p0 p1 p2 p3)(hne:h≠g)(o:Nat)(v:Value):zbl (w.setCell ⟨h,o,none⟩ v) g p0 p1 p2 p3:=
 ⟨(zeS hne).trans hb.c0,(zeS hne).trans hb.c1,(zeS hne).trans hb.c2,(zeS hne).trans hb.c3,fun i=>by simp[Zai,hb.free],Ub⟩
theorem zbl.set0{w:World}{g:Nat}{p0 p1 p2 p3:Value}(h:zbl w g p0 p1 p2 p3)(v:Value):zbl (w.setCell ⟨g,0,none⟩ v) g v p1 p2 p3:=by
 refine⟨Z3 _ _ _ h.c0,?_,?_,?_,fun i=>by simp[Zai,h.free],Kw⟩
 ·exact(ZA _ _ _ _ Yo).trans h.c1
 ·exact(ZA _ _ _ _ Yo).trans h.c2
 ·exact(ZA _ _ _ _ Yo).trans h.c3
theorem zbl.grown{w w':World}{g:Nat}{p0 p1 p2 p3 v:Value}(h:zbl w g p0 p1 p2 p3)(hg:w.grownBy w' v.ownBlock)(hne:v.ownBlock≠some g):zbl w' g p0 p1 p2 p3:=by
 have hb:∀o,w'.cell? ⟨g,o,none⟩=w.cell? ⟨g,o,none⟩:=fun o=>ZS (hg.block g h.lt (fun e=>hne e.symm))
 have hf:∀o,w'.frozen? ⟨g,o,none⟩=w.frozen? ⟨g,o,none⟩:=fun o=>ZaT (hg.block g h.lt (fun e=>hne e.symm))
 exact⟨(hb 0).trans h.c0,(hb 1).trans h.c1,(hb 2).trans h.c2,(hb 3).trans h.c3,fun o=>(hf o).trans (h.free o),Zb h.lt hg.size⟩
theorem zX.grown{w w':World}{g:Nat}{v:Value}(h:zX w g)(hlt:g<w.heap.size)(hg:w.grownBy w' v.ownBlock)(hne:v.ownBlock≠some g):zX w' g:=
 fun o x e=>h o x ((ZS (hg.block g hlt (fun e=>hne e.symm))).symm.trans e)
theorem zbU.setCell{w:World}{p1 p2 p3:Value}{q:Rat}(h:zbU w p1 p2 p3 q){g:Nat}(hg:zX w g)(o:Nat)(v:Value):zbU (w.setCell ⟨g,o,none⟩ v) p1 p2 p3 q:=by
 obtain⟨an,ad,cn,cd,e1,e2,e3,l1,l2,u1,u2⟩:=h.ex;exact⟨an,ad,cn,cd,e1,e2,e3,l1,l2,u1.setCell hg _ _,u2.setCell hg _ _⟩
theorem zS{T:TypeId}{w:World}{base:Nat}{v:Value}{L:List (Nat×Rat)}(h:zdT zes noI T w base v L){g:Nat}(hg:zX w g)(hne:v.ownBlock≠some g)(o:Nat)(u:Value):zdT zes noI T (w.setCell ⟨g,o,none⟩ u) base v L:=by
 obtain⟨xs,ho,he⟩:=h.ex
 refine⟨⟨xs,ownsRow_setCell_other ho hne u,fun j x hj=>?_⟩,fun k hk i z e=>?_⟩
 ·obtain⟨p0,p1,p2,p3,h0,h1,h2,h3,e0,hr⟩:=he j x hj;exact⟨p0,p1,p2,p3,h0,h1,h2,h3,e0,hr.setCell hg o u⟩
 ·have hgk:g≠k:=fun e=>hne (by rw[e];exact hk)
  exact h.al k hk i z ((zeS hgk).symm.trans e)
structure zqL (w W:World) (base:Nat) (s:Value) (L:List (Nat×Rat)) (p1 p2 p3 q1 q2 q3:Value) (q:Rat):Prop where
 fb:zbl W w.heap.size s p1 p2 p3
 cb:za4 W (w.heap.size+1) q1 q2 q3
 rb:zbl W (w.heap.size+1+1) (.slice none 0 0) (.bool false) (.slice none 0 0) (.slice none 0 0)
 nf:zX W w.heap.size
 nr:zX W (w.heap.size+1+1)
 own:zdT zes noI 84 W base s L
 far:s.ownBlock≠some w.heap.size/\s.ownBlock≠some (w.heap.size+1+1)
 rc:zbU W q1 q2 q3 q
 bl:Below base w W
theorem zqL.below{w W W':World}{base:Nat}{s:Value}{L:List (Nat×Rat)}{p1 p2 p3 q1 q2 q3:Value}{q:Rat}(h:zqL w W base s L p1 p2 p3 q1 q2 q3 q)(hb:Below W.heap.size W W')(hbase:base<=W.heap.size):zqL w W' base s L p1 p2 p3 q1 q2 q3 q:=
 ⟨h.fb.below hb,h.cb.below hb,h.rb.below hb,h.nf.below hb h.fb.lt,h.nr.below hb h.rb.lt,h.own.below zby hb,h.far,h.rc.below hb,h.bl.trans (hb.mono hbase)⟩
structure zqZ (w W:World) (base:Nat) (s s':Value) (L:List (Nat×Rat)) (p1 p2 p3:Value):Prop where
 fb:zbl W w.heap.size s p1 p2 p3
 rb:zbl W (w.heap.size+1+1) (.slice none 0 0) (.bool false) (.slice none 0 0) (.slice none 0 0)
 nf:zX W w.heap.size
 nr:zX W (w.heap.size+1+1)
 own:zdT zes noI 84 W base s' L
 far:s'.ownBlock≠some w.heap.size/\s'.ownBlock≠some (w.heap.size+1+1)
 bl:Below base w W
theorem zqL.done{w W:World}{base:Nat}{s:Value}{L:List (Nat×Rat)}{p1 p2 p3 q1 q2 q3:Value}{q:Rat}(h:zqL w W base s L p1 p2 p3 q1 q2 q3 q):zqZ w W base s s L p1 p2 p3:=⟨h.fb,h.rb,h.nf,h.nr,h.own,h.far,h.bl⟩
theorem zqL.app{w W W':World}{base:Nat}{s s':Value}{L L':List (Nat×Rat)}{p1 p2 p3 q1 q2 q3:Value}{q:Rat}(h:zqL w W base s L p1 p2 p3 q1 q2 q3 q)(ho:zdT zes noI 84 W' base s' L')(hg:W.grownBy W' s.ownBlock)(hb:Below base W W')(hn:zi7 W s s'):
  zqZ w W' base s s' L' p1 p2 p3:=by
 refine⟨h.fb.grown hg h.far.1,h.rb.grown hg h.far.2,h.nf.grown h.fb.lt hg h.far.1,h.nr.grown h.rb.lt hg h.far.2,ho,?_,h.bl.trans hb⟩
 rcases hn with e|⟨k,e,hk⟩
 ·rw[e];exact h.far
 ·have l1:=h.fb.lt;have l2:=h.rb.lt
  constructor
  ·intro e2;rw[e]at e2;cases e2;omega
  ·intro e2;rw[e]at e2;cases e2;omega
theorem zqZ.set{w W:World}{base:Nat}{s s':Value}{L:List (Nat×Rat)}{p1 p2 p3:Value}(h:zqZ w W base s s' L p1 p2 p3)(hs:∀x,s'≠.int .u32 x)(hbase:base<=w.heap.size):zqZ w (W.setCell ⟨w.heap.size,0,none⟩ s') base s' s' L p1 p2 p3:=
 ⟨h.fb.set0 s',h.rb.far Ya _ _,h.nf.setCell _ _ hs,h.nr.far Ya _ _,zS h.own h.nf h.far.1 _ _,h.far,h.bl.setCell (p:=⟨w.heap.size,0,none⟩) hbase _⟩
def zm8(w:World)(base:Nat)(L:List (Nat×Rat))(b0:Bool)(an:Option Addr)(nn cn:Nat)(ad:Option Addr)(nd cd:Nat)(e:Ending)(w':World):Prop:=
 ∃a c,e=.returned (.agg #[.slice a L.length c,.bool b0,.slice an nn cn,.slice ad nd cd])/\zdT zes noI 84 w' base (.slice a L.length c) L/\Below base w w'
theorem zqZ.post{w W:World}{base:Nat}{a:Option Addr}{n c:Nat}{L:List (Nat×Rat)}{b0:Bool}{an ad:Option Addr}{nn cn nd cd:Nat}{s:Value}(h:zqZ w W base s (.slice a n c) L (.bool b0) (.slice an nn cn) (.slice ad nd cd))(hn:L.length=n)(hbase:base<=w.heap.size):
  zm8 w base L b0 an nn cn ad nd cd (.returned (.agg #[.slice a n c,.bool b0,.slice an nn cn,.slice ad nd cd])) ((((W.setCell ⟨w.heap.size+1+1,0,none⟩ (.slice a n c)).setCell ⟨w.heap.size+1+1,1,none⟩ (.bool b0)).setCell ⟨w.heap.size+1+1,2,none⟩ (.slice an nn cn)).setCell ⟨w.heap.size+1+1,3,none⟩ (.slice ad nd cd)):=by
 subst hn;have n1:=h.nr.setCell 0 (.slice a L.length c) Yc;have n2:=n1.setCell 1 (.bool b0) Yc;have n3:=n2.setCell 2 (.slice an nn cn) Yc;have hg:base<=w.heap.size+1+1:=Ya;exact⟨a,c,rfl,zS (zS (zS (zS h.own h.nr h.far.2 _ _) n1 h.far.2 _ _) n2 h.far.2 _ _) n3 h.far.2 _ _,
  (((h.bl.setCell (p:=⟨w.heap.size+1+1,0,none⟩) hg _).setCell (p:=⟨w.heap.size+1+1,1,none⟩) hg _).setCell (p:=⟨w.heap.size+1+1,2,none⟩) hg _).setCell (p:=⟨w.heap.size+1+1,3,none⟩) hg _⟩
theorem zjr{q:Rat}:zdv (zc q).neg (zo (zc q).num)=0 ↔ q=0:=by
 have h:zo (zc q).num=q.num.natAbs:=by
  show zo (za q.num.natAbs)=_
  exact zg _
 unfold zdv;rw[h]
 constructor
 ·intro e
  by_cases hz:q.num.natAbs=0
  ·exact Rat.num_eq_zero.1 Ya
  ·rw[Zg hz]at e
   split at e<;>cases e
 ·intro e;rw[Zm (by rw[e];rfl)]
theorem zsb{w:World}{base n v:Nat}{a:Option Addr}{c:Nat}{b0:Bool}{an ad:Option Addr}{nn cn nd cd:Nat}{vq:Value}{L:List (Nat×Rat)}{q:Rat}(hown:zdT zes noI 84 w base (.slice a n c) L)(hn:L.length=n)(hbase:base<=w.heap.size)
 (hq:RatV w vq (zc q))(hql:zD (zc q) 1048576)(hnb:n<=1000000):
  Calls Tryz.prog 135 #[.agg #[.slice a n c,.bool b0,.slice an nn cn,.slice ad nd cd],.int .i64 (v:Int),vq] w (zm8 w base (zcs L v q) b0 an nn cn ad nd cd):=by
 obtain⟨qn,qd,qcn,qcd,rfl,g2,g3,g4,g5⟩:=hq.ex;have hS0:zqL w (((w.alloc (.cells #[.slice a n c,.bool b0,.slice an nn cn,.slice ad nd cd] 53)).alloc (.cells #[.bool (zc q).neg,.slice qn (zc q).num.length qcn,.slice qd (zc q).den.length qcd] 51)).alloc (.cells #[.slice none 0 0,.bool false,.slice none 0 0,.slice none 0 0] 53))
   base (.slice a n c) L (.bool b0) (.slice an nn cn) (.slice ad nd cd) (.bool (zc q).neg) (.slice qn (zc q).num.length qcn) (.slice qd (zc q).den.length qcd) q:=by
  have k1:=zbl.alloc w (.slice a n c) (.bool b0) (.slice an nn cn) (.slice ad nd cd) 53;have m1:=zX.alloc w #[.slice a n c,.bool b0,.slice an nn cn,.slice ad nd cd] 53 Yc;have b1:=blA w (.cells #[.slice a n c,.bool b0,.slice an nn cn,.slice ad nd cd] 53);have s1:(w.alloc (.cells #[.slice a n c,.bool b0,.slice an nn cn,.slice ad nd cd] 53)).heap.size=w.heap.size+1:=Yc;generalize w.alloc (.cells #[.slice a n c,.bool b0,.slice an nn cn,.slice ad nd cd] 53)=W1 at *;have k2:=za4.alloc W1 (.bool (zc q).neg) (.slice qn (zc q).num.length qcn) (.slice qd (zc q).den.length qcd) 51;have b2:=blA W1 (.cells #[.bool (zc q).neg,.slice qn (zc q).num.length qcn,.slice qd (zc q).den.length qcd] 51);have s2:(W1.alloc (.cells #[.bool (zc q).neg,.slice qn (zc q).num.length qcn,.slice qd (zc q).den.length qcd] 51)).heap.size=w.heap.size+1+1:=Yi;generalize W1.alloc (.cells #[.bool (zc q).neg,.slice qn (zc q).num.length qcn,.slice qd (zc q).den.length qcd] 51)=W2 at *;have k3:=zbl.alloc W2 (.slice none 0 0) (.bool false) (.slice none 0 0) (.slice none 0 0) 53;have m3:=zX.alloc W2 #[.slice none 0 0,.bool false,.slice none 0 0,.slice none 0 0] 53 Yc;have b3:=blA W2 (.cells #[.slice none 0 0,.bool false,.slice none 0 0,.slice none 0 0] 53);generalize W2.alloc (.cells #[.slice none 0 0,.bool false,.slice none 0 0,.slice none 0 0] 53)=W3 at *;rw[s1]at k2;rw[s2]at k3 m3;have b23:=b2.trans (b3.mono b2.size);have b13:=b1.trans (b23.mono b1.size)
  refine⟨k1.below b23,k2.below b3,k3,m1.below b23 k1.lt,m3,hown.below zby b13,⟨fun e=>?_,fun e=>?_⟩,zbU.below ⟨qn,qd,qcn,qcd,rfl,rfl,rfl,g2,g3,g4,g5⟩ b13,b13.mono hbase⟩
  ·have:=(hown.lt e).2;omega
  ·have:=(hown.lt e).2;omega
 obtain⟨HS0,HN,HQl⟩:=hd3 hS0 hn hql;generalize hLp:zcs L v q=L';have HLp:=hid hLp;clear hS0 hown hq g4 g5 hLp
 go_enter Tryz.func135,Tryz.ntmps135
 go_upto_region 1 with fail
 generalize((w.alloc (.cells #[.slice a n c,.bool b0,.slice an nn cn,.slice ad nd cd] 53)).alloc (.cells #[.bool (zc q).neg,.slice qn (zc q).num.length qcn,.slice qd (zc q).den.length qcd] 51)).alloc (.cells #[.slice none 0 0,.bool false,.slice none 0 0,.slice none 0 0] 53)=W at *;obtain⟨y0,y1,y2,yf,ylt⟩:=HS0.out.cb;have hle:=HQl.out.num;have HSg:=hid (ztK HS0.out.rc.val Ya)
 go_wp2_with fail
 refine HSg.out.mono ?_
 rintro e w1 ⟨rfl,hb1⟩;have hb01:base<=W.heap.size:=Zi hbase HS0.out.bl.size;have HS1:=hid (HS0.out.below hb1 hb01);clear hb1 HSg HS0 y0 y1 y2 yf ylt
 by_cases hz:q=0
 ·have hs:zdv (zc q).neg (zo (zc q).num)=0:=zjr.2 hz;rw[hs];obtain rfl:L'=L:=by rw[<- HLp.out];unfold zcs;rw[Zm hz]
  have HP:=hid HS1.out.done;obtain⟨x0,x1,x2,x3,xf,xlt⟩:=HP.out.fb;obtain⟨r0,r1,r2,r3,rf,rlt⟩:=HP.out.rb;clear hz hs;go_wp2;exact Zp (v:=.agg #[.slice a n c,.bool b0,.slice an nn cn,.slice ad nd cd]) Kq rfl (HP.out.post HN.out hbase)
 ·have hs:(zdv (zc q).neg (zo (zc q).num) != 0)=true:=by rw[bne_iff_ne];exact fun e=>hz (zjr.1 e)
  obtain rfl:L'=L++[(v,q)]:=by rw[<- HLp.out];unfold zcs;rw[Zg hz]
  have HCn:Hid (∀W',Below w1.heap.size w1 W'->Calls Tryz.prog 121 #[.agg #[.bool (zc q).neg,.slice qn (zc q).num.length qcn,.slice qd (zc q).den.length qcd]] W' (zcj W' (zc q))):=fun W' hb=>by
   have h:=zqR (HS1.out.rc.val.below hb) (by have:=HQl.out.num;omega) (by have:=HQl.out.den;omega);rw[za0,zH]at h;exact h
  have hlt1:base<=w1.heap.size:=Zi hbase HS1.out.bl.size;clear hz hle
  go_upto_region 2 with fail
  clear hs
  refine zj 7 Yb Yb Yb Yb Yd (zbZ w1.heap.size w1) (fun w w'=>Below w.heap.size w w') (GQ [.val (.pointer (some ⟨w.heap.size,0,none⟩)),.val (.slice a n c),.val (.int .i64 (v:Int)),.val (.agg #[.bool (zc q).neg,.slice qn (zc q).num.length qcn,.slice qd (zc q).den.length qcd]),.rat q,.trm v q,.one v q]) (fun i v w w' h hb=>zaV h hb) (zbZ.start (Za _)) ?_ ?_
  ·intro ops;simp only[Zo,Zw,zbR]
   refine⟨?v0,?v1,?v2,?v3,?_,?_,?_,trivial⟩
   all_goals (intro g W hR hL;have hB:=hR.base;have HS2:=hid (HS1.out.below hR.be hlt1);obtain⟨x0,x1,x2,x3,xf,xlt⟩:=HS2.out.fb;obtain⟨y0,y1,y2,yf,ylt⟩:=HS2.out.cb;simp only[zdt,Region.binds,ZB,Zn,Zx,GQ,Zf,Zc]at hL;simp[ze,Act.put])
   case v0|v1|v2|v3=>
    exact Ut
   ·try simp only[hL]
    clear hL;have HR:=hid hR;clear hR;have HCt:=hid (HCn.out W HR.out.be);exact Um
   ·generalize g 2=y2 at hL⊢;generalize g 4=y4 at hL⊢;obtain⟨rfl,H4,_⟩:=hL;obtain⟨K4,HR⟩:=hd2 H4 hR;clear hR H4;obtain⟨an',ad',cn',cd',rfl,l1,l2,u1,u2⟩:=K4.out.ex;have HRC:=hid (show zbU W _ _ _ _ from⟨an',ad',cn',cd',rfl,rfl,rfl,l1,l2,u1,u2⟩);clear u1 u2 K4;go_wp2;exact⟨_,rfl,HR.out,Ze _ _,_,_,_,rfl,HRC.out⟩
   ·generalize g 5=y5 at hL⊢;obtain⟨H5,_⟩:=hL;obtain⟨K5,HR⟩:=hd2 H5 hR;clear hR H5;obtain⟨r1,r2,r3,rfl,hrc⟩:=K5.out;obtain⟨HOne,HBa⟩:=hd2 (zfp.alloc zby (show zes W _ r1 r2 r3 (v,q)from⟨rfl,hrc⟩) 84) ((Ze W.heap.size W).alloc (Za _) (.cells #[.int .i64 ((v:Nat):Int),r1,r2,r3] 84));obtain⟨an',ad',cn',cd',rfl,rfl,rfl,l1,l2,u1,u2⟩:=hrc.ex;clear hrc u1 u2 K5;go_wp2;exact⟨⟨Zi HR.out.base HBa.out.size,HR.out.be.trans (HBa.out.mono HR.out.base)⟩,HBa.out,HOne.out⟩
  ·intro ops g W hR hL;have hB:=hR.base;have J1:=hL.1.1.1.1.1.2;have J6:=hL.2;simp only[GQ,Zf,Zc]at J1 J6;have HS2:=hid (HS1.out.below hR.be hlt1);obtain⟨x0,x1,x2,x3,xf,xlt⟩:=HS2.out.fb;obtain⟨y0,y1,y2,yf,ylt⟩:=HS2.out.cb;clear hL;simp only[Zo,Zw,ZG,ZO];simp[ze,Act.put];generalize g 1=y1 at J1⊢;obtain rfl:=J1;generalize g 6=y6 at J6⊢;have HR:=hid hR;clear hR;have HJ:=hid J6;clear J6 x0 x1 x2 x3 xf xlt y0 y1 y2 yf ylt
   go_upto_region 3 with(at_builtin;refine zeF (T:=84) zby (.int .i64 0) (.bool false) (.slice none 0 0) (.slice none 0 0) 64 Yp rfl (.tmp 11) (.tmp 16) 47 rfl base Tryz.underlying47 Yb Ya (.slice a n c) n L HN.out rfl HS2.out.own y6 (v,q) HJ.out rfl Ya (Zi hbase HS2.out.bl.size) ?_;intro b3 k3 w3 hown hk3 hg hbe hnx;have HP:=hid (HS2.out.app hown hg hbe hnx);obtain⟨x0,x1,x2,x3,xf,xlt⟩:=HP.out.fb;clear hown hg hbe hnx)
   have HQ:=hid (HP.out.set Yc hbase);generalize w3.setCell ⟨w.heap.size,0,none⟩ (.slice b3 (n+1) k3)=w4 at *;clear HP x0 x1 x2 x3 xf xlt;obtain⟨x0,x1,x2,x3,xf,xlt⟩:=HQ.out.fb;obtain⟨r0,r1,r2,r3,rf,rlt⟩:=HQ.out.rb;go_wp2;exact Zp (v:=.agg #[.slice b3 (n+1) k3,.bool b0,.slice an nn cn,.slice ad nd cd]) Kq rfl (HQ.out.post (by rw[ZE,HN.out];rfl) hbase)
