/-
  Contracts: ModJ, ModK, ModL, ModM, ModN, ModO, ModR, EvM, OwnRR, EvN, OpenE, LinB, LinC, LinD, LinK.
-/
import Derived.Test.YtfgmmghmmfmdgaaGreatY17
import Derived.Test.YtfgmmghmmfmdgaaGreatY18
import Derived.Test.YtfgmmghmmfmdgaaGreatY16
import Derived.Test.YtfgmmghmmfmdgaaGreatY0
set_option linter.all false
set_option maxRecDepth 100000
set_option maxHeartbeats 3200000
namespace Go.Proofs.YtfgmmghmmfmdgaaGreat
open Go.RowKit
open Go.Lib (hid)
variable {P:Prop} {W w1 w w0 w':World} {g p base n T M E j k D B:Nat} {p0 p1 p2 p3 p4 p5 p6 p7 p8 q0 q1 v u inp v':Value} {a:Option Addr} {c xs:List Value} {input:List Int} {S:List (List Int)} {l:zae} {i:Int} {CL:List (List Value)} {L:List zae} {o:Obj}
theorem Ow(h:P:=by unfold Hid;have:S.all zm=false:=YD;rw[<- HRd.out,this,Zbh];rfl):P:=h
theorem Ul(h:P:=by go_wp2_with fail;refine HCt.out.mono ?_;rintro e w1 ⟨v1,rfl,kv,kb⟩;obtain⟨KV,KB⟩:=hd2 kv kb;clear kv kb HCt;go_wp2;exact⟨_,rfl,(HR.out.gp KB.out),KB.out,KV.out⟩):P:=h
theorem Un(h:P:=by
 clear hv hu h1 h2 r1 r2 hin hcall hc hok hk
 go_enter Tryz.func84,Tryz.ntmps84
 go_upto_region 1 with fail
 have hT:=pbl w a input c b S d l b1 d1 b2 d2 122 44;generalize(w.alloc (.cells #[.slice a input.length c,.slice b S.length d] 122)).alloc (zbu l b1 d1 b2 d2 44)=W at *;have HT:=hid hT;have HB0:Hid (Below w.heap.size w W):=hT.bl;clear hT;obtain⟨x0,x1,xf,xlt⟩:=HT.out.a;obtain⟨y0,y1,y2,y3,y4,y5,y6,y7,y8,ylt⟩:=HT.out.b;have HFs:Hid (W.cell? ⟨bs,os,none⟩=some (.int .i64 s0)/\bs<W.heap.size):=⟨(HB0.out.cell (p:=⟨bs,os,none⟩) HCl.out).trans HC0.out,Zd HCl.out HB0.out.size⟩
 have xbl:Below W.heap.size W W.drew:=(Zg _ _).drew;have HC2:Hid (∀w',Below W.heap.size W w'->Calls Tryz.prog 126 #[.agg #[.slice a input.length c,.slice b S.length d]] w' fun e w''=>e=.returned (.slice (some ⟨bs,os,none⟩) cl ci)/\Below W.heap.size W w''):=
  fun w' hb=>(HCall.out w' (HB0.out.trans (hb.mono HB0.out.size))).mono fun e w'' ⟨h1,h2⟩=>⟨h1,hb.trans (h2.mono hb.size)⟩
 have HW2:=hid (fun w' (hb:Below W.heap.size W w')=>(HWin.out w' (HB0.out.trans (hb.mono HB0.out.size))).mono fun e w'' ⟨h1,h2⟩=>(⟨h1,hb.trans (h2.mono hb.size)⟩:_/\Below W.heap.size W w''));clear HWin HCall
 go_upto_region 8 with fail
 clear x0 x1 xf xlt y0 y1 y2 y3 y4 y5 y6 y7 y8 ylt
 go_region_held3 (fun w'=>w'.cell? ⟨w.heap.size,0,none⟩=some (.slice a input.length c)/\w'.cell? ⟨w.heap.size,1,none⟩=some (.slice b S.length d)/\w'.cell? ⟨w.heap.size+1,0,none⟩=some (.int .i64 l.kind)/\w'.cell? ⟨w.heap.size+1,1,none⟩=some (.int .i64 l.frm)/\w'.cell? ⟨w.heap.size+1,2,none⟩=some (.int .i64 l.out)/\w'.cell? ⟨w.heap.size+1,3,none⟩=some (.int .i64 l.kh)/\w'.cell? ⟨w.heap.size+1,4,none⟩=some (.int .i64 l.kw)/\w'.cell? ⟨w.heap.size+1,5,none⟩=some (.int .i64 l.stride)/\w'.cell? ⟨w.heap.size+1,6,none⟩=some (.int .i64 l.pad)/\w'.cell? ⟨w.heap.size+1,7,none⟩=some (.slice b1 l.weights.length d1)/\w'.cell? ⟨w.heap.size+1,8,none⟩=some (.slice b2 l.bias.length d2)/\w'.cell? ⟨bs,os,none⟩=some (.int .i64 s0))
  (first|exact zoF HT.out.b HT.out.a HFs.out.2 HFs.out.1 YC)
  (first
   | (go_at_call 126; refine (HC2.out _ ?hb).mono ?_
      case hb=>assumption
      rintro e w1 ⟨rfl,p3⟩)
   | (go_at_call 125; refine (HW2.out _ ?hb2).mono ?_
      case hb2=>assumption
      rintro e w1 ⟨⟨g,rfl,hI⟩,p3⟩))
 all_goals
  obtain⟨HI,HB6⟩:=hd2 hI (HB0.out.trans (‹Below W.heap.size W w1›.mono HB0.out.size));clear hI;go_wp2
  go_ret2
  exact⟨⟨_,_,rfl,HI.out⟩,HB6.out⟩
):P:=h
theorem UC(h:P:=by
 ·cases e
  refine⟨hl,.inr ⟨g,0,rfl,(ZF.1 hg).1,fun j x hj=>?_⟩⟩
  obtain⟨p0,p1,p2,p3,h0,h1,h2,h3,h4⟩:=he j x hj;have k0:=ho.cells (g:=g) rfl _ _ h0;have k1:=ho.cells (g:=g) rfl _ _ h1;have k2:=ho.cells (g:=g) rfl _ _ h2;have k3:=ho.cells (g:=g) rfl _ _ h3;simp only[Zav]at k0 k1 k2 k3;exact⟨p0,p1,p2,p3,k0,k1,k2,k3,h4⟩
):P:=h
theorem UJ(h:P:=by clear hv hu h1 h2 r1 r2 hin hcall hc hok hk;go_enter Tryz.func84,Tryz.ntmps84;go_upto_region 1 with fail;have hT:=pbl w a input c b S d l b1 d1 b2 d2 122 44;generalize(w.alloc (.cells #[.slice a input.length c,.slice b S.length d] 122)).alloc (zbu l b1 d1 b2 d2 44)=W at *;have HT:=hid hT;have HB0:Hid (Below w.heap.size w W):=hT.bl;clear hT;obtain⟨x0,x1,xf,xlt⟩:=HT.out.a;obtain⟨y0,y1,y2,y3,y4,y5,y6,y7,y8,ylt⟩:=HT.out.b;go_wp2_with fail;refine(HD.out W HB0.out).mono ?_;rintro e w1 ⟨⟨g,c',rfl,hI⟩,hb1⟩;have HB1:=htr HB0 hb1;have HI:=hid hI;clear hI hb1 x0 x1 xf xlt y0 y1 y2 y3 y4 y5 y6 y7 y8 ylt;go_wp2;go_ret2;exact⟨⟨_,_,rfl,HI.out⟩,HB1.out⟩):P:=h
theorem Tv(h:P:=by refine wpQuiet_nil ?_;intro _ hw';obtain⟨nq,hw''⟩:=hw';subst hw'';obtain⟨HBN,HIN⟩:=hd2 (HB0.out.trans ((zG W nq).mono HB0.out.size)) (HIw.out.below (zG W nq));generalize ext W nq=w5 at *;go_wp2;go_ret2;exact⟨⟨_,_,rfl,HIN.out⟩,HBN.out⟩):P:=h
theorem TL(h:P:=by
 clear hT hbw;go_wp2
 refine Zr (zdN rfl _ _ _) rfl ?_
 rw[HF.out];exact⟨⟨av,cv,by simp only[HTl.out];rfl,HT.out.mono (fun b _ hb=>Zl HB1.out.size hb)⟩,HBw.out⟩
):P:=h
theorem TV(h:P:=by go_wp2;go_ret2;exact zaJ HF.out HB3.out):P:=h
theorem TY(h:P:=by have t3:decide (¬ er=0)=true:=Jv;clear he;go_wp2;refine Zr (zdN rfl _ _ _) rfl ?_;exact zg7 HF.out (HB1.out.trans (HB2.out.mono HB1.out.size))):P:=h
theorem Eu(h:P:=by
 intro x hx
 rcases Zay.1 hx with h|h
 ·rw[Za4 h];exact⟨VX,VX⟩
 ·simp at h;subst h;exact HLe.out
):P:=h
theorem E7(h:P:=by have HF:Hid (RR=([],0,1)):=Kp;clear hvm;go_wp2;refine Zr (zdN rfl _ _ _) rfl ?_;exact zg7 HF.out HB1.out):P:=h
theorem EP(h:P:=by obtain⟨an,ad,cn,cd,rfl,rfl,rfl,_⟩:=h.ex;simp at hu;rcases hu with rfl|rfl|rfl|rfl<;>exact⟨rfl,rfl⟩):P:=h
theorem Ig(h:P:=by rename_i x hx;rw[hx]at h;obtain⟨b,e,l,k1,k2⟩:=h;exact⟨b,e,l,k1.below hb,k2.below hb k1.lt⟩):P:=h
theorem Ks(h:P:=by simp[results,Tryz.results135,go_sem,r0,r1,r2,r3]):P:=h
theorem zkj(s:List Int)(l:zae):(0<=(zaz s l).1/\(zaz s l).1<=16600)/\(0<=(zaz s l).2.1/\(zaz s l).2.1<=16600):=by
 unfold zaz
 cases h:zbf s l.kh l.kw l.stride l.pad with
 | true=>rw[zcM h];simp
 | false=>
  cases h2:zaU s l.kh l.kw l.pad with
  | true=>rw[zbX h h2];simp
  | false=>
   by_cases h3:262144<(zek s l.kh l.kw l.stride l.pad).total
   ·rw[zdq h h2 h3];simp
   ·rw[zez h h2 h3];obtain⟨q,hq,e,_⟩:=zfS h h2;rw[e];have:=hq.r2;have:=hq.q2;simp only;omega
theorem zep(w:World)(x y z:Int)(T:Nat)(hx:I64 x)(hy:I64 y)(hz:I64 z):z9 (w.alloc (.cells #[.int .i64 x,.int .i64 y,.int .i64 z] T)) Any (some ⟨w.heap.size,0,none⟩) [x,y,z]:=by
 refine⟨?_,Yd,.inr ⟨w.heap.size,0,rfl,trivial,Yd,fun j d hj=>?_⟩⟩
 ·intro u hu;simp at hu
  rcases hu with rfl|rfl|rfl<;>assumption
 ·rw[ZO,World.cell?_alloc_at _ _ _ _ rfl]
  match j,hj with
  | 0,hj=>simp at hj;subst hj;rfl
  | 1,hj=>simp at hj;subst hj;rfl
  | 2,hj=>simp at hj;subst hj;rfl
theorem zo8(hg:znl W g p0 p1 p2 p3 p4 p5 p6 p7 p8)(hh:za1 W p q0 q1)(hb:Below W.heap.size W w1):
  w1.cell? ⟨p,0,none⟩=some q0/\w1.cell? ⟨p,1,none⟩=some q1/\w1.cell? ⟨g,3,none⟩=some p3/\w1.cell? ⟨g,4,none⟩=some p4/\w1.cell? ⟨g,5,none⟩=some p5/\w1.cell? ⟨g,6,none⟩=some p6:=
 ⟨(hb.cell hh.lt).trans hh.c0,(hb.cell hh.lt).trans hh.c1,(hb.cell hg.lt).trans hg.c3,(hb.cell hg.lt).trans hg.c4,(hb.cell hg.lt).trans hg.c5,(hb.cell hg.lt).trans hg.c6⟩
theorem zfU{w:World}{v u:Value}{input:List Int}{S:List (List Int)}{l:zae}(hv:zcg w v input S)(hu:zcG w u l)(ch:Int)(hch:I64 ch):
  Calls Tryz.prog 125 #[v,u,.int .i64 ch] w fun e w'=>(∃g,e=.returned (.tuple #[.slice (some ⟨g,0,none⟩) 3 3,.bool (decide ((zaz (zk input S) l).2.2=0))])/\z9 w' Any (some ⟨g,0,none⟩) [ch,(zaz (zk input S) l).1,(zaz (zk input S) l).2.1])/\Below w.heap.size w w':=by
 obtain⟨ai,ci,hin,hcall⟩:=pIn hv;obtain⟨a,b,c,d,rfl,h1,h2⟩:=hv.ex;obtain⟨b1,b2,d1,d2,rfl,r1,r2⟩:=hu.ex;have q1:=h1.len;have q2:=h2.len;have q3:=r1.len;have q4:=r2.len;obtain⟨HIn,HCall⟩:=hd2 hin hcall;have hbd:=zkj (zk input S) l;have hwin:Hid (∀(W w':World),Below w.heap.size w W->Below W.heap.size W w'->Calls Tryz.prog 131 #[.slice ai (zk input S).length ci,.int .i64 l.kh,.int .i64 l.kw,.int .i64 l.stride,.int .i64 l.pad] w' fun e w''=>
   (∃x y z,e=.returned (.tuple #[.slice x y z,.int .i64 (zaz (zk input S) l).1,.int .i64 (zaz (zk input S) l).2.1,.int .i64 (zaz (zk input S) l).2.2]))/\Below W.heap.size W w''):=by
  intro W w' hW hb
  refine(zsS ci l.kh l.kw l.stride l.pad (HIn.out.below (hW.trans (hb.mono hW.size)))).mono ?_
  rintro e w'' ⟨x,z,rfl,_,p⟩;exact⟨⟨x,_,z,rfl⟩,hb.trans (p.mono hb.size)⟩
 generalize zaz (zk input S) l=Z at *;obtain⟨z1,z2,z3⟩:=Z;simp only at hbd⊢;obtain⟨⟨y1,y2⟩,y3,y4⟩:=hbd;have HI3:Hid (∀W:World,z9 (W.alloc (.cells #[.int .i64 ch,.int .i64 z1,.int .i64 z2] 3)) Any (some ⟨W.heap.size,0,none⟩) [ch,z1,z2]):=fun W=>zep W ch z1 z2 _ hch ⟨Ya,Ya⟩ ⟨Ya,Ya⟩
 generalize hR:decide (z3=0)=R;have hR2:(z3==0)=R:=hR;clear hv hu h1 h2 r1 r2 hin hcall hch hR y1 y2 y3 y4
 go_enter Tryz.func125,Tryz.ntmps125
 go_upto_region 1 with fail
 have hT:=pbl w a input c b S d l b1 d1 b2 d2 122 44;generalize(w.alloc (.cells #[.slice a input.length c,.slice b S.length d] 122)).alloc (zbu l b1 d1 b2 d2 44)=W at *;have HT:=hid hT;have xbl:Below W.heap.size W W.drew:=(Zg _ _).drew;have HC2:Hid (∀w',Below W.heap.size W w'->Calls Tryz.prog 126 #[.agg #[.slice a input.length c,.slice b S.length d]] w' fun e w''=>e=.returned (.slice ai (zk input S).length ci)/\Below W.heap.size W w''):=
  fun w' hb=>(HCall.out w' (HT.out.bl.trans (hb.mono Xk))).mono fun e w'' ⟨h1,h2⟩=>⟨h1,hb.trans (h2.mono hb.size)⟩
 have HW2:=hid (hwin.out W · hT.bl);clear hT HCall hwin HIn
 go_region_held3 (fun w'=>w'.cell? ⟨w.heap.size,0,none⟩=some (.slice a input.length c)/\w'.cell? ⟨w.heap.size,1,none⟩=some (.slice b S.length d)/\w'.cell? ⟨w.heap.size+1,3,none⟩=some (.int .i64 l.kh)/\w'.cell? ⟨w.heap.size+1,4,none⟩=some (.int .i64 l.kw)/\w'.cell? ⟨w.heap.size+1,5,none⟩=some (.int .i64 l.stride)/\w'.cell? ⟨w.heap.size+1,6,none⟩=some (.int .i64 l.pad))
  (first|exact zo8 HT.out.b HT.out.a YC)
  (first
   | (go_at_call 126; refine (HC2.out _ ?hb).mono ?_
      case hb=>assumption
      rintro e w1 ⟨rfl,p3⟩)
   | (go_at_call 131; refine (HW2.out _ ?hb2).mono ?_
      case hb2=>assumption
      rintro e w1 ⟨⟨x1,x2,x3,rfl⟩,p3⟩))
 all_goals
  have hbl:= ‹Below W.heap.size W w1›;have HE:=hid hbl;have hI:=HI3.out w1;have HI:=hid hI;clear hI hbl;go_wp2
  go_ret2
  exact⟨⟨_,rfl,HI.out⟩,(HT.out.bl.trans (HE.out.mono Xk)).alloc (by have:=HT.out.b.lt;have:=HE.out.size;omega) _⟩
theorem zke{a s b c:Int}(a1:1<=a)(a2:a<=16384)(s1:1<=s)(s2:s<=16384)(b1:1<=b)(b2:b<=64)(c1:1<=c)(c2:c<=64):(1<=a*s/\a*s<=268435456)/\(1<=a*s*b/\a*s*b<=17179869184)/\1<=a*s*b*c/\a*s*b*c<=1099511627776:=by
 have h1:=zeT a1 a2 s1 s2;have h3:1*1<=a*s*b:=ZaB h1.1 b1 Ya Ya;have h4:a*s*b<=268435456*64:=ZaB h1.2 b2 Ya Ya;have h5:1*1<=a*s*b*c:=ZaB Ya c1 Ya Ya;have h6:a*s*b*c<=17179869184*64:=ZaB Ya c2 Ya Ya;omega
theorem zsP{w:World}{v u:Value}{input:List Int}{S:List (List Int)}{l:zae}(hv:zcg w v input S)(hu:zcG w u l)(ho1:1<=l.out)(ho2:l.out<=16384)(hk1:1<=l.kh)(hk2:l.kh<=64)(hk3:1<=l.kw)(hk4:l.kw<=64)(hc:zm (zk input S)=true):
  Calls Tryz.prog 124 #[v,u] w fun e w'=>(∃a' c',e=.returned (.tuple #[.slice a' 3 c',.bool (decide ((zaz (zk input S) l).2.2=0) && decide ((l.weights.length:Int)=l.out*(zk input S).getD 0 0*l.kh*l.kw))])/\z9 w' Any a' [l.out,(zaz (zk input S) l).1,(zaz (zk input S) l).2.1])/\Below w.heap.size w w':=by
 obtain⟨HPV,HLV⟩:=hd2 hv hu;obtain⟨ai,ci,hin,hcall⟩:=pIn hv;obtain⟨a,b,c,d,rfl,h1,h2⟩:=hv.ex;obtain⟨b1,b2,d1,d2,rfl,r1,r2⟩:=hu.ex;have q1:=h1.len;have q2:=h2.len;have q3:=r1.len;have q4:=r2.len;obtain⟨HIn,HCall,HA1,HA2⟩:=hd4 hin hcall h1 h2;have hcal2:=HCall.out;have hlen:=(zbN hc).1;obtain⟨bs,os,s0,rfl,cs0,hx0,_,hbs,_,_,_⟩:=hin.pick2 (k:=0) Ya;have hs0:(zk input S).getD 0 0=s0:=by rw[Zf,hx0];rfl
 obtain⟨s1,s2⟩:1<=s0/\s0<=16384:=zcY hc _ (Zt hx0);obtain⟨⟨m1,m2⟩,⟨m3,m4⟩,m5,m6⟩:=zke ho1 ho2 s1 s2 hk1 hk2 hk3 hk4;rw[ZW]at cs0;obtain⟨HC0,HCl⟩:=hd2 cs0 hbs;rw[hs0];have hwin:=zfU hv hu l.out ⟨Ya,Ya⟩;have HWin:=hid (fun W (hb:Below w.heap.size w W)=>zfU (hv.below hb) (hu.below hb) l.out ⟨Ya,Ya⟩);generalize decide ((zaz (zk input S) l).2.2=0)=OK at *;generalize(zaz (zk input S) l).1=zR at *;generalize(zaz (zk input S) l).2.1=zC at *;generalize hR:(OK && decide ((l.weights.length:Int)=l.out*s0*l.kh*l.kw))=RR;have HR:=hid hR;have hpos:0<(zk input S).length:=hlen;generalize hcl:(zk input S).length=cl at *;clear hwin hx0 cs0 hs0 hbs hc hR hlen hcl;clear hv hu h1 h2 r1 r2 hin hcall
 go_enter Tryz.func124,Tryz.ntmps124
 go_upto_region 1 with fail
 have hT:=pbl w a input c b S d l b1 d1 b2 d2 122 44;generalize(w.alloc (.cells #[.slice a input.length c,.slice b S.length d] 122)).alloc (zbu l b1 d1 b2 d2 44)=W at *;have HT:=hid hT;have HB0:Hid (Below w.heap.size w W):=hT.bl;have HCe:=hid (fun w' (hb:Below W.heap.size W w')=>hcal2 w' (hT.bl.trans (hb.mono hT.bl.size)));clear hT hcal2;obtain⟨x0,x1,xf,xlt⟩:=HT.out.a;obtain⟨y0,y1,y2,y3,y4,y5,y6,y7,y8,ylt⟩:=HT.out.b
 go_wp2_with fail
 refine(HWin.out W HB0.out).mono ?_
 rintro e w1 ⟨⟨g,rfl,hI⟩,hb1⟩;obtain⟨HI,HB1⟩:=hd2 hI hb1;have f0:=zF ((hb1.cell (p:=⟨w.heap.size,0,none⟩) xlt).trans x0) (Zd xlt hb1.size);have f1:=zF ((hb1.cell (p:=⟨w.heap.size,1,none⟩) xlt).trans x1) (Zd xlt hb1.size);have f2:=zF ((hb1.cell (p:=⟨w.heap.size+1,2,none⟩) ylt).trans y2) (Zd ylt hb1.size);have f3:=zF ((hb1.cell (p:=⟨w.heap.size+1,3,none⟩) ylt).trans y3) (Zd ylt hb1.size);have f4:=zF ((hb1.cell (p:=⟨w.heap.size+1,4,none⟩) ylt).trans y4) (Zd ylt hb1.size);have f7:=zF ((hb1.cell (p:=⟨w.heap.size+1,7,none⟩) ylt).trans y7) (Zd ylt hb1.size);have hbw:=HB0.out.trans (hb1.mono HB0.out.size);have fs:=zF ((hbw.cell (p:=⟨bs,os,none⟩) HCl.out).trans HC0.out) (Zd HCl.out hbw.size);obtain⟨HBw,HCx⟩:=hd2 hbw (fun e=>HCe.out (ext w1 e) (hb1.trans ((zG w1 e).mono hb1.size)));clear x0 x1 xf xlt y0 y1 y2 y3 y4 y5 y6 y7 y8 ylt hb1 hI hbw
 cases OK with
 | false=>
  have hRF:Hid (RR=false):=by unfold Hid;rw[<- HR.out];rfl
  clear HCx;go_wp2
  refine zy Yc Yc ?_
  repeat (go_big_quiet_step (fail))
  refine wpQuiet_nil ?_
  intro _ hw';obtain⟨nq,hw''⟩:=hw';subst hw'';obtain⟨HBN,HIN⟩:=hd2 (HBw.out.trans ((zG w1 nq).mono HBw.out.size)) (HI.out.below (zG w1 nq));generalize ext w1 nq=w5 at *;go_wp2
  go_ret2
  rw[hRF.out];exact⟨⟨_,_,rfl,HIN.out⟩,HBN.out⟩
 | true=>
  have hRT:Hid (RR=decide ((l.weights.length:Int)=l.out*s0*l.kh*l.kw)):=by unfold Hid;rw[<- HR.out];rfl
  obtain⟨p1,hp1⟩:∃p1,l.out*s0=p1:=⟨_,rfl⟩
  obtain⟨p2,hp2⟩:∃p2,p1*l.kh=p2:=⟨_,rfl⟩
  obtain⟨p3,hp3⟩:∃p3,p2*l.kw=p3:=⟨_,rfl⟩
  rw[hp1]at m1 m2 m3 m4 m5 m6;rw[hp2]at m3 m4 m5 m6;rw[hp3]at m5 m6;have t1:IntKind.i64.wrap (l.out*s0)=p1:=Jn;have t2:IntKind.i64.wrap (p1*l.kh)=p2:=Jo;have t3:IntKind.i64.wrap (p2*l.kw)=p3:=Jp;have hR3:((l.weights.length:Int)==p3)=RR:=by rw[hRT.out,hp1,hp2,hp3];rfl
  clear hp1 hp2 hp3 m1 m2 m3 m4 m5 m6;go_wp2
  refine zy Yc Yc ?_
  repeat (go_big_quiet_step (first|(go_at_call 126;exact Calls.ext_of (HCx.out _))))
  refine wpQuiet_nil ?_
  intro _ hw';obtain⟨nq,hw''⟩:=hw';subst hw'';obtain⟨HBN,HIN⟩:=hd2 (HBw.out.trans ((zG w1 nq).mono HBw.out.size)) (HI.out.below (zG w1 nq));generalize ext w1 nq=w5 at *;go_wp2
  go_ret2
  exact⟨⟨_,_,rfl,HIN.out⟩,HBN.out⟩
theorem ztk(hv:zcg w v input S)(hu:zcG w u l)(hf2:l.frm<(S.length:Int)):
  Calls Tryz.prog 127 #[v,u] w fun e w'=>(∃a' c',e=.returned (.tuple #[.slice a' (zk input S).length c',.bool (zbY (if 0<=l.frm then S.getD l.frm.toNat []else input) (zk input S))])/\z9 w' Any a' (zk input S))/\Below w.heap.size w w':=by
 obtain⟨HPV,HLV⟩:=hd2 hv hu;obtain⟨ai,ci,hin,hcall⟩:=pIn hv;obtain⟨a,b,c,d,rfl,h1,h2⟩:=hv.ex;obtain⟨b1,b2,d1,d2,rfl,r1,r2⟩:=hu.ex;have q1:=h1.len;have q2:=h2.len;have q3:=r1.len;have q4:=r2.len;obtain⟨HIn,HCall,HA1,HA2⟩:=hd4 hin hcall h1 h2;have hcal2:=HCall.out;generalize hR:zbY (if 0<=l.frm then S.getD l.frm.toNat []else input) (zk input S)=RR;have HR:=hid hR;clear hR;clear hv hu h1 h2 r1 r2 hin hcall
 go_enter Tryz.func127,Tryz.ntmps127
 go_upto_region 1 with fail
 have hT:=pbl w a input c b S d l b1 d1 b2 d2 122 44;generalize(w.alloc (.cells #[.slice a input.length c,.slice b S.length d] 122)).alloc (zbu l b1 d1 b2 d2 44)=W at *;have HT:=hid hT;have HB0:Hid (Below w.heap.size w W):=hT.bl;have HCe:=hid (fun w' (hb:Below W.heap.size W w')=>hcal2 w' (hT.bl.trans (hb.mono hT.bl.size)));clear hT hcal2;obtain⟨x0,x1,xf,xlt⟩:=HT.out.a;obtain⟨y0,y1,y2,y3,y4,y5,y6,y7,y8,ylt⟩:=HT.out.b;clear y2 y3 y4 y5 y6 y7 y8 y0
 by_cases hf:0<=l.frm
 ·obtain⟨k,hk⟩:∃k:Nat,l.frm=(k:Int):=⟨l.frm.toNat,Ya⟩
  have hkl:k<S.length:=Ya;obtain⟨bb,off,o,aj,cj,rfl,hcell,hl,hcj,hI,hbb,_⟩:=(HA2.out.below HB0.out).pickc hkl;have HEq:=hid (fun W' (hb:Below W.heap.size W W')=>zpI cj ci (hI.below hb) (HIn.out.below (HB0.out.trans (hb.mono HB0.out.size))));have hs:zbY o (zk input S)=RR:=by
   rw[<- HR.out,Zq hf,hk,ZaM,Zf,hl];rfl
  rw[hs]at HEq;rw[hk]at y1;have qo:=hI.len;have f0:=zF x0 xlt;have f1:=zF x1 xlt;obtain⟨HCx,HEx,HIw⟩:=hd3 (fun e=>HCe.out (ext W e) (zG W e)) (fun e=>HEq.out (ext W e) (zG W e)) (HIn.out.below HB0.out);clear hI hl hs HEq hk hf hf2 HR;go_wp2;clear x0 x1 xf xlt y1 ylt hcell
  refine zy Yc Yc ?_
  repeat (go_big_quiet_step (first|(go_at_call 126;exact Calls.ext_of (HCx.out _))|(go_at_call 152;exact Calls.ext_of (HEx.out _))))
  exact Tv
 ·have HEq:=hid (fun W' (hb:Below W.heap.size W W')=>zpI c ci (HA1.out.below (HB0.out.trans (hb.mono HB0.out.size))) (HIn.out.below (HB0.out.trans (hb.mono HB0.out.size))));have hs:zbY input (zk input S)=RR:=by rw[<- HR.out,Zh hf]
  rw[hs]at HEq;have f0:=zF x0 xlt;have f1:=zF x1 xlt;obtain⟨HCx,HEx,HIw⟩:=hd3 (fun e=>HCe.out (ext W e) (zG W e)) (fun e=>HEq.out (ext W e) (zG W e)) (HIn.out.below HB0.out);clear hs HEq hf2 HR;go_wp2;clear x0 x1 xf xlt y1 ylt
  refine zy Yc Yc ?_
  repeat (go_big_quiet_step (first|(go_at_call 126;exact Calls.ext_of (HCx.out _))|(go_at_call 152;exact Calls.ext_of (HEx.out _))))
  exact Tv
theorem zlq(h:zag l i=true):1<=l.kind/\l.kind<=7:=by
 by_cases hk:1<=l.kind/\l.kind<=7
 ·exact hk
 ·unfold zag at h;rw[zfo l i hk]at h;cases h
theorem zpj(h:zag l i=true)(hk:l.kind=1):1<=l.out/\l.out<=16384:=by
 unfold zag zcQ at h;rw[Zq hk]at h;simp only[Zw]at h;have:=h.1.1;unfold zgT at this
 simpa using this
theorem zpt(h:zag l i=true)(hk:l.kind=2):(1<=l.out/\l.out<=16384)/\(1<=l.kh/\l.kh<=64)/\(1<=l.kw/\l.kw<=64):=by
 unfold zag zcQ at h;rw[Zh Ya,Zq hk]at h;simp only[Zw]at h;have h1:=h.1.1;have h2:=h.1.2.1;unfold zgT at h1;unfold zdb zcS at h2;simp at h1 h2;exact⟨h1,h2.1,h2.2.1⟩
theorem zkC(h:zag l i=true)(hk:l.kind=7):l.frm<i:=by
 unfold zag zcQ at h;rw[Zh Ya,Zh Ya,Zh Ya,Zh Ya,Zq hk]at h;simp only[Zw,Zy]at h;exact h.1.2.1
theorem zeK{w:World}{g:Nat}{x:Int}(hx:I64 x)(hc:w.cell? ⟨g,0,none⟩=some (.int .i64 x))(hg:g<w.heap.size):z9 w Any (some ⟨g,0,none⟩) [x]:=by
 refine⟨?_,Yd,.inr ⟨g,0,rfl,trivial,hg,fun j d hj=>?_⟩⟩
 ·intro u hu;simp at hu;subst hu;exact hx
 ·match j,hj with
  | 0,hj=>simp at hj;subst hj;exact hc
theorem zoF{bs os:Nat}{s:Value}(hg:znl W g p0 p1 p2 p3 p4 p5 p6 p7 p8)(hh:za1 W p q0 q1)(hbs:bs<W.heap.size)(hs:W.cell? ⟨bs,os,none⟩=some s)(hb:Below W.heap.size W w1):
  w1.cell? ⟨p,0,none⟩=some q0/\w1.cell? ⟨p,1,none⟩=some q1/\w1.cell? ⟨g,0,none⟩=some p0/\w1.cell? ⟨g,1,none⟩=some p1/\w1.cell? ⟨g,2,none⟩=some p2/\w1.cell? ⟨g,3,none⟩=some p3/\w1.cell? ⟨g,4,none⟩=some p4/\w1.cell? ⟨g,5,none⟩=some p5/\w1.cell? ⟨g,6,none⟩=some p6/\w1.cell? ⟨g,7,none⟩=some p7/\w1.cell? ⟨g,8,none⟩=some p8/\w1.cell? ⟨bs,os,none⟩=some s:=by
 have h:=hg.below hb;exact⟨(hb.cell hh.lt).trans hh.c0,(hb.cell hh.lt).trans hh.c1,h.c0,h.c1,h.c2,h.c3,h.c4,h.c5,h.c6,h.c7,h.c8,(hb.cell hbs).trans hs⟩
theorem zr2(hv:zcg w v input S)(hu:zcG w u l)(hok:zag l S.length=true)(hc:zm (zk input S)=true)(hk:l.kind=1):
  Calls Tryz.prog 84 #[v,u] w fun e w'=>(∃a' c',e=.returned (.tuple #[.slice a' (za5 input S l).1.length c',.bool (za5 input S l).2])/\z9 w' Any a' (za5 input S l).1)/\Below w.heap.size w w':=by
 obtain⟨HPV,HLV⟩:=hd2 hv hu;obtain⟨ai,ci,hin,hcall⟩:=pIn hv;obtain⟨a,b,c,d,rfl,h1,h2⟩:=hv.ex;obtain⟨b1,b2,d1,d2,rfl,r1,r2⟩:=hu.ex;have q1:=h1.len;have q2:=h2.len;have q3:=r1.len;have q4:=r2.len;have q5:=hin.len;obtain⟨HIn,HCall,HC,HOK⟩:=hd4 hin hcall hc hok;have hraw:za5 input S l=([l.out],decide ((l.weights.length:Int)=l.out*zJ (zk input S))):=by unfold za5;rw[Zq hk]
 obtain⟨o1,o2⟩:=zpj hok hk;have HD:=hid (fun W (hb:Below w.heap.size w W)=>zrf (hv.below hb) (hu.below hb) o1 o2 hc);rw[hraw];generalize decide ((l.weights.length:Int)=l.out*zJ (zk input S))=R at *;clear hraw HIn HCall;have k1:(l.kind==1)=true:=Yn;clear hv hu h1 h2 r1 r2 hin hcall hc hok hk
 go_enter Tryz.func84,Tryz.ntmps84
 go_upto_region 1 with fail
 have hT:=pbl w a input c b S d l b1 d1 b2 d2 122 44;generalize(w.alloc (.cells #[.slice a input.length c,.slice b S.length d] 122)).alloc (zbu l b1 d1 b2 d2 44)=W at *;have HT:=hid hT;have HB0:Hid (Below w.heap.size w W):=hT.bl;clear hT;obtain⟨x0,x1,xf,xlt⟩:=HT.out.a;obtain⟨y0,y1,y2,y3,y4,y5,y6,y7,y8,ylt⟩:=HT.out.b
 go_wp2_with fail
 refine(HD.out W HB0.out).mono ?_
 rintro e w1 ⟨⟨g,rfl,hcg,hlg⟩,hb1⟩;have HB1:=htr HB0 hb1;have HI:=hid (zeK ⟨Ya,Ya⟩ hcg hlg);clear hcg hlg hb1 x0 x1 xf xlt y0 y1 y2 y3 y4 y5 y6 y7 y8 ylt;go_wp2
 go_ret2
 exact⟨⟨_,_,rfl,HI.out⟩,HB1.out⟩
theorem zr8(hv:zcg w v input S)(hu:zcG w u l)(hok:zag l S.length=true)(hc:zm (zk input S)=true)(hk:l.kind=2):
  Calls Tryz.prog 84 #[v,u] w fun e w'=>(∃a' c',e=.returned (.tuple #[.slice a' (za5 input S l).1.length c',.bool (za5 input S l).2])/\z9 w' Any a' (za5 input S l).1)/\Below w.heap.size w w':=by
 obtain⟨HPV,HLV⟩:=hd2 hv hu;obtain⟨ai,ci,hin,hcall⟩:=pIn hv;obtain⟨a,b,c,d,rfl,h1,h2⟩:=hv.ex;obtain⟨b1,b2,d1,d2,rfl,r1,r2⟩:=hu.ex;have q1:=h1.len;have q2:=h2.len;have q3:=r1.len;have q4:=r2.len;have q5:=hin.len;obtain⟨HIn,HCall,HC,HOK⟩:=hd4 hin hcall hc hok;have hraw:za5 input S l=([l.out,(zaz (zk input S) l).1,(zaz (zk input S) l).2.1],decide ((zaz (zk input S) l).2.2=0) && decide ((l.weights.length:Int)=l.out*(zk input S).getD 0 0*l.kh*l.kw)):=by unfold za5;rw[Zh Ya,Zq hk]
 obtain⟨⟨o1,o2⟩,⟨g1,g2⟩,g3,g4⟩:=zpt hok hk;have HD:=hid (fun W (hb:Below w.heap.size w W)=>zsP (hv.below hb) (hu.below hb) o1 o2 g1 g2 g3 g4 hc);rw[hraw];generalize(decide ((zaz (zk input S) l).2.2=0) && decide ((l.weights.length:Int)=l.out*(zk input S).getD 0 0*l.kh*l.kw))=R at *;generalize(zaz (zk input S) l).1=zR at *;generalize(zaz (zk input S) l).2.1=zC at *;clear hraw HIn HCall;have k1:(l.kind==1)=false:=bn0 Ya;have k2:(l.kind==2)=true:=Yn;exact UJ
theorem zsm(hv:zcg w v input S)(hu:zcG w u l)(hok:zag l S.length=true)(hc:zm (zk input S)=true)(hk:l.kind=7):
  Calls Tryz.prog 84 #[v,u] w fun e w'=>(∃a' c',e=.returned (.tuple #[.slice a' (za5 input S l).1.length c',.bool (za5 input S l).2])/\z9 w' Any a' (za5 input S l).1)/\Below w.heap.size w w':=by
 obtain⟨HPV,HLV⟩:=hd2 hv hu;obtain⟨ai,ci,hin,hcall⟩:=pIn hv;obtain⟨a,b,c,d,rfl,h1,h2⟩:=hv.ex;obtain⟨b1,b2,d1,d2,rfl,r1,r2⟩:=hu.ex;have q1:=h1.len;have q2:=h2.len;have q3:=r1.len;have q4:=r2.len;have q5:=hin.len;obtain⟨HIn,HCall,HC,HOK⟩:=hd4 hin hcall hc hok;have hraw:za5 input S l=(zk input S,zbY (if 0<=l.frm then S.getD l.frm.toNat []else input) (zk input S)):=YO;have o1:=zkC hok hk;have HD:=hid (fun W (hb:Below w.heap.size w W)=>ztk (hv.below hb) (hu.below hb) o1);rw[hraw];generalize zbY (if 0<=l.frm then S.getD l.frm.toNat []else input) (zk input S)=R at *;clear hraw HIn HCall o1;have k1:(l.kind==1)=false:=bn0 Ya;have k2:(l.kind==2)=false:=bn0 Ya;have k3:(l.kind==3)=false:=bn0 Ya;have k4:(l.kind==4)=false:=bn0 Ya;have k6:(l.kind==6)=false:=bn0 Ya;have k7:(l.kind==7)=true:=Yn;exact UJ
theorem zr0(hv:zcg w v input S)(hu:zcG w u l)(hok:zag l S.length=true)(hc:zm (zk input S)=true)(hk:l.kind=5):
  Calls Tryz.prog 84 #[v,u] w fun e w'=>(∃a' c',e=.returned (.tuple #[.slice a' (za5 input S l).1.length c',.bool (za5 input S l).2])/\z9 w' Any a' (za5 input S l).1)/\Below w.heap.size w w':=by
 obtain⟨HPV,HLV⟩:=hd2 hv hu;obtain⟨ai,ci,hin,hcall⟩:=pIn hv;obtain⟨a,b,c,d,rfl,h1,h2⟩:=hv.ex;obtain⟨b1,b2,d1,d2,rfl,r1,r2⟩:=hu.ex;have q1:=h1.len;have q2:=h2.len;have q3:=r1.len;have q4:=r2.len;have q5:=hin.len;obtain⟨HIn,HCall,HC,HOK⟩:=hd4 hin hcall hc hok;have hraw:za5 input S l=(zk input S,true):=YH;rw[hraw];clear hraw;have k1:(l.kind==1)=false:=bn0 Ya;have k2:(l.kind==2)=false:=bn0 Ya;have k3:(l.kind==3)=false:=bn0 Ya;have k4:(l.kind==4)=false:=bn0 Ya;have k6:(l.kind==6)=false:=bn0 Ya;have k7:(l.kind==7)=false:=bn0 Ya;clear hv hu h1 h2 r1 r2 hin hcall hc hok hk
 go_enter Tryz.func84,Tryz.ntmps84
 go_upto_region 1 with fail
 have hT:=pbl w a input c b S d l b1 d1 b2 d2 122 44;generalize(w.alloc (.cells #[.slice a input.length c,.slice b S.length d] 122)).alloc (zbu l b1 d1 b2 d2 44)=W at *;have HT:=hid hT;have HB0:Hid (Below w.heap.size w W):=hT.bl;clear hT;obtain⟨x0,x1,xf,xlt⟩:=HT.out.a;obtain⟨y0,y1,y2,y3,y4,y5,y6,y7,y8,ylt⟩:=HT.out.b
 go_wp2_with fail
 refine(HCall.out W HB0.out).mono ?_
 rintro e w1 ⟨rfl,hb1⟩;have HB1:=htr HB0 hb1;clear hb1 x0 x1 xf xlt y0 y1 y2 y3 y4 y5 y6 y7 y8 ylt;go_wp2
 go_ret2
 exact⟨⟨_,_,rfl,HIn.out.below HB1.out⟩,HB1.out⟩
theorem zst(hv:zcg w v input S)(hu:zcG w u l)(hok:zag l S.length=true)(hc:zm (zk input S)=true)(hk:l.kind=6):
  Calls Tryz.prog 84 #[v,u] w fun e w'=>(∃a' c',e=.returned (.tuple #[.slice a' (za5 input S l).1.length c',.bool (za5 input S l).2])/\z9 w' Any a' (za5 input S l).1)/\Below w.heap.size w w':=by
 obtain⟨HPV,HLV⟩:=hd2 hv hu;obtain⟨ai,ci,hin,hcall⟩:=pIn hv;obtain⟨a,b,c,d,rfl,h1,h2⟩:=hv.ex;obtain⟨b1,b2,d1,d2,rfl,r1,r2⟩:=hu.ex;have q1:=h1.len;have q2:=h2.len;have q3:=r1.len;have q4:=r2.len;have q5:=hin.len;obtain⟨HIn,HCall,HC,HOK⟩:=hd4 hin hcall hc hok;have hraw:za5 input S l=([zJ (zk input S)],true):=by unfold za5;rw[Zh Ya,Zh Ya,Zh Ya,Zq hk]
 obtain⟨z1,z2⟩:=zao hc;have HZ:=hid (fun W (hI:z9 W Any ai (zk input S))=>zmq ci hI);rw[hraw];generalize zJ (zk input S)=sz at *;clear hraw;have k1:(l.kind==1)=false:=bn0 Ya;have k2:(l.kind==2)=false:=bn0 Ya;have k3:(l.kind==3)=false:=bn0 Ya;have k4:(l.kind==4)=false:=bn0 Ya;have k6:(l.kind==6)=true:=Yn;clear hv hu h1 h2 r1 r2 hin hcall hc hok hk
 go_enter Tryz.func84,Tryz.ntmps84
 go_upto_region 1 with fail
 have hT:=pbl w a input c b S d l b1 d1 b2 d2 122 44;generalize(w.alloc (.cells #[.slice a input.length c,.slice b S.length d] 122)).alloc (zbu l b1 d1 b2 d2 44)=W at *;have HT:=hid hT;have HB0:Hid (Below w.heap.size w W):=hT.bl;clear hT;obtain⟨x0,x1,xf,xlt⟩:=HT.out.a;obtain⟨y0,y1,y2,y3,y4,y5,y6,y7,y8,ylt⟩:=HT.out.b
 go_wp2_with fail
 refine(HCall.out W HB0.out).mono ?_
 rintro e w1 ⟨rfl,hb1⟩;have HB1:=htr HB0 hb1;clear hb1 x0 x1 xf xlt y0 y1 y2 y3 y4 y5 y6 y7 y8 ylt
 go_wp2_with fail
 refine(HZ.out _ (HIn.out.below HB1.out)).mono ?_
 rintro e w2 ⟨rfl,rfl⟩;have HI:=hid (fun W:World=>zeK (w:=W.alloc (.cells #[.int .i64 sz] 3)) (g:=W.heap.size) (x:=sz) ⟨Ya,Ya⟩ (by rw[World.cell?_alloc_at _ _ _ _ rfl];rfl) Yd);go_wp2
 go_ret2
 exact⟨⟨_,_,rfl,HI.out _⟩,HB1.out.alloc HB1.out.size _⟩
theorem zsa(hv:zcg w v input S)(hu:zcG w u l)(hok:zag l S.length=true)(hc:zm (zk input S)=true)(hk:l.kind=3):
  Calls Tryz.prog 84 #[v,u] w fun e w'=>(∃a' c',e=.returned (.tuple #[.slice a' (za5 input S l).1.length c',.bool (za5 input S l).2])/\z9 w' Any a' (za5 input S l).1)/\Below w.heap.size w w':=by
 obtain⟨HPV,HLV⟩:=hd2 hv hu;obtain⟨ai,ci,hin,hcall⟩:=pIn hv;obtain⟨a,b,c,d,rfl,h1,h2⟩:=hv.ex;obtain⟨b1,b2,d1,d2,rfl,r1,r2⟩:=hu.ex;have q1:=h1.len;have q2:=h2.len;have q3:=r1.len;have q4:=r2.len;have q5:=hin.len;obtain⟨HIn,HCall,HC,HOK⟩:=hd4 hin hcall hc hok;have hraw:za5 input S l=([(zk input S).getD 0 0,(zaz (zk input S) l).1,(zaz (zk input S) l).2.1],decide ((zaz (zk input S) l).2.2=0)):=Xv;have hlen:=(zbN hc).1;obtain⟨bs,os,s0,rfl,cs0,hx0,_,hbs,_,s1,s2⟩:=hin.pick2 (k:=0) Ya;have hs0:(zk input S).getD 0 0=s0:=by rw[Zf,hx0];rfl
 rw[ZW]at cs0;obtain⟨HC0,HCl⟩:=hd2 cs0 hbs;rw[hraw,hs0];have HWin:=hid (fun W (hb:Below w.heap.size w W)=>zfU (hv.below hb) (hu.below hb) s0 ⟨s1,s2⟩);generalize decide ((zaz (zk input S) l).2.2=0)=OK at *;generalize(zaz (zk input S) l).1=zR at *;generalize(zaz (zk input S) l).2.1=zC at *;have hpos:0<(zk input S).length:=hlen;generalize hcl:(zk input S).length=cl at *;clear hraw hx0 cs0 hs0 hbs hlen hcl;have k1:(l.kind==1)=false:=bn0 Ya;have k2:(l.kind==2)=false:=bn0 Ya;have k3:(l.kind==3)=true:=Yn;exact Un
theorem zsK(hv:zcg w v input S)(hu:zcG w u l)(hok:zag l S.length=true)(hc:zm (zk input S)=true)(hk:l.kind=4):
  Calls Tryz.prog 84 #[v,u] w fun e w'=>(∃a' c',e=.returned (.tuple #[.slice a' (za5 input S l).1.length c',.bool (za5 input S l).2])/\z9 w' Any a' (za5 input S l).1)/\Below w.heap.size w w':=by
 obtain⟨HPV,HLV⟩:=hd2 hv hu;obtain⟨ai,ci,hin,hcall⟩:=pIn hv;obtain⟨a,b,c,d,rfl,h1,h2⟩:=hv.ex;obtain⟨b1,b2,d1,d2,rfl,r1,r2⟩:=hu.ex;have q1:=h1.len;have q2:=h2.len;have q3:=r1.len;have q4:=r2.len;have q5:=hin.len;obtain⟨HIn,HCall,HC,HOK⟩:=hd4 hin hcall hc hok;have hraw:za5 input S l=([(zk input S).getD 0 0,(zaz (zk input S) l).1,(zaz (zk input S) l).2.1],decide ((zaz (zk input S) l).2.2=0)):=Xv;have hlen:=(zbN hc).1;obtain⟨bs,os,s0,rfl,cs0,hx0,_,hbs,_,s1,s2⟩:=hin.pick2 (k:=0) Ya;have hs0:(zk input S).getD 0 0=s0:=by rw[Zf,hx0];rfl
 rw[ZW]at cs0;obtain⟨HC0,HCl⟩:=hd2 cs0 hbs;rw[hraw,hs0];have HWin:=hid (fun W (hb:Below w.heap.size w W)=>zfU (hv.below hb) (hu.below hb) s0 ⟨s1,s2⟩);generalize decide ((zaz (zk input S) l).2.2=0)=OK at *;generalize(zaz (zk input S) l).1=zR at *;generalize(zaz (zk input S) l).2.1=zC at *;have hpos:0<(zk input S).length:=hlen;generalize hcl:(zk input S).length=cl at *;clear hraw hx0 cs0 hs0 hbs hlen hcl;have k1:(l.kind==1)=false:=bn0 Ya;have k2:(l.kind==2)=false:=bn0 Ya;have k3:(l.kind==3)=false:=bn0 Ya;have k4:(l.kind==4)=true:=Yn;exact Un
theorem zs4(hv:zcg w v input S)(hu:zcG w u l)(hok:zag l S.length=true)(hc:zm (zk input S)=true):
  Calls Tryz.prog 84 #[v,u] w fun e w'=>(∃a' c',e=.returned (.tuple #[.slice a' (za5 input S l).1.length c',.bool (za5 input S l).2])/\z9 w' Any a' (za5 input S l).1)/\Below w.heap.size w w':=by
 have hk:=zlq hok;have:l.kind=1∨l.kind=2∨l.kind=3∨l.kind=4∨l.kind=5∨l.kind=6∨l.kind=7:=Ya
 rcases this with h|h|h|h|h|h|h
 ·exact zr2 hv hu hok hc h
 ·exact zr8 hv hu hok hc h
 ·exact zsa hv hu hok hc h
 ·exact zsK hv hu hok hc h
 ·exact zr0 hv hu hok hc h
 ·exact zst hv hu hok hc h
 ·exact zsm hv hu hok hc h
theorem Tryz.infoLay:(Tryz.prog.info? 44).map (fun i=>(i.zero,i.size,i.bytes))=some (some (.agg #[.int .i64 0,.int .i64 0,.int .i64 0,.int .i64 0,.int .i64 0,.int .i64 0,.int .i64 0,.slice none 0 0,.slice none 0 0]),9,104):=Yc
def zec(l:zae)(a1 a2:Option Addr)(c1 c2:Nat):List Value:=[.int .i64 l.kind,.int .i64 l.frm,.int .i64 l.out,.int .i64 l.kh,.int .i64 l.kw,.int .i64 l.stride,.int .i64 l.pad,.slice a1 l.weights.length c1,.slice a2 l.bias.length c2]
theorem zsy:∀{CL:List (List Value)} {j i:Nat} {c:List Value} {u:Value},(∀c∈CL,c.length=9)->CL[j]? =some c->c[i]? =some u->CL.flatten[j*9+i]? =some u:=by
 intro CL
 induction CL with
 | nil=>intro j i c u _ h _;simp at h
 | cons d r ih=>
  intro j i c u h9 hj hi;have hd:=h9 d Yd;rw[List.flatten_cons]
  cases j with
  | zero=>
   simp at hj;subst hj;have hlt:=(Zu.1 hi).1;rw[Zbo,ZO,Zx Ya];exact hi
  | succ j=>
   rw[ZG (by rw[hd];omega),hd,show(j+1)*9+i-9=j*9+i from Ya];exact ih (fun c hc=>h9 c (by simp[hc])) Ua hi
theorem zkf(hown:w.ownsRow base T 9 v n CL.flatten)(hn:n=L.length)(hn2:n<=1000000)(hCL:CL.length=n)
 (hrow:∀(j:Nat) (c:List Value) (l:zae),CL[j]? =some c->L[j]? =some l->∃a1 a2 c1 c2,c=zec l a1 a2 c1 c2/\zN w a1 l.weights/\zN w a2 l.bias)(h9:∀c∈CL,c.length=9):
  ∃a cap,v=.slice a L.length cap/\zaO w a L:=by
 subst hn
 rcases hown.2 with⟨rfl,h0⟩|⟨g,cap,cur,rfl,hb,hg,_⟩
 ·rw[h0];have:L=[]:=ZA h0;subst this;exact⟨none,0,rfl,zaO.nil _ _⟩
 ·refine⟨_,cap,rfl,⟨Ya,.inr ⟨g,0,rfl,(ZF.1 hg).1,fun j l hj=>?_⟩⟩⟩
  have hlt:=(Zu.1 hj).1;obtain⟨c,hc⟩:∃c,CL[j]? =some c:=⟨CL[j],Zn Ya⟩
  obtain⟨a1,a2,c1,c2,rfl,r1,r2⟩:=hrow j c l hc hj;have key:∀(i:Nat) (u:Value),(zec l a1 a2 c1 c2)[i]? =some u->w.cell? ⟨g,0+j*9+i,none⟩=some u:=by
   intro i u hu;have:=hown.cells (g:=g) rfl (j*9+i) u (zsy h9 hc hu);rw[Zav]at this;rw[ZO]
   simpa using this
  exact⟨a1,a2,c1,c2,⟨by simpa using key 0 _ rfl,key 1 _ rfl,key 2 _ rfl,key 3 _ rfl,key 4 _ rfl,key 5 _ rfl,key 6 _ rfl,key 7 _ rfl,key 8 _ rfl⟩,r1,r2⟩
structure MkL (w0 w:World) (M T:Nat) (inp v:Value) (CL:List (List Value)):Prop where
 box:w.heap[M]? =some (.cells #[inp,v] T (0,0))
 own:w.ownsRow w0.heap.size 44 9 v CL.length CL.flatten
 nM:v.ownBlock≠some M
 ge:w0.heap.size<=M
 be:Below w0.heap.size w0 w
theorem MkL.c1(h:MkL w0 w M T inp v CL):w.cell? ⟨M,1,none⟩=some v:=by simp[World.cell?,h.box]
theorem MkL.lt(h:MkL w0 w M T inp v CL):M<w.heap.size:=(ZF.1 h.box).1
theorem MkL.mid{v':Value}{c:List Value}(h:MkL w0 w M T inp v CL)(hg:(w.alloc o).grownBy w' v.ownBlock):
  w'.heap[M]? =some (.cells #[inp,v] T (0,0))/\w'.cell? ⟨M,1,none⟩=some v/\w'.frozen? ⟨M,1,none⟩=false:=by
 have hlt:=h.lt;have hb:w'.heap[M]? =some (.cells #[inp,v] T (0,0)):=by
  rw[hg.block M Yj (fun e=>h.nM e.symm)];show(w.heap.push o)[M]? =_
  rw[Array.getElem?_push_lt hlt,<- Zbl hlt];exact h.box
 exact⟨hb,by simp[World.cell?,hb],by simp[World.frozen?,hb]⟩
theorem MkL.step(h:MkL w0 w M T inp v CL)(ho:w'.ownsRow w0.heap.size 44 9 v' (CL.length+1) (CL.flatten++c))
 (hg:(w.alloc o).grownBy w' v.ownBlock)(hn:ziB (w.alloc o) v v'):MkL w0 (w'.setCell ⟨M,1,none⟩ v') M T inp v' (CL++[c]):=by
 have hlt:=h.lt;have hb:=(h.mid (v':=v') (c:=c) hg).1;have hne:v'.ownBlock≠some M:=by
  rcases hn with e|⟨g,e,hge⟩
  ·rw[e];exact h.nM
  ·rw[e];intro e2;cases e2;simp at hge;omega
 have hal:Below w.heap.size w (w.alloc o):=(Zg _ _).alloc (Za _) _
 refine⟨?_,?_,hne,h.ge,?_⟩
 ·unfold World.setCell;simp only[Zbk,Zq,hb,Option.map_some];rfl
 ·rw[ZB,List.flatten_append];simp only[ZJ,ZaK,List.flatten_cons,List.flatten_nil,ZaX,ZO];exact ownsRow_setCell_other ho hne _
 ·have h1:=(h.be.trans (hal.mono h.be.size)).grown hg (by have:=h.be.size;simp;omega) (fun k hk=>(h.own.lt k hk).1);exact h1.setCell h.ge _
theorem zcN(w:World)(c:List Value)(T:Nat)(h9:c.length=9)(h1:∀u∈c,u.oneCell'=true):zhM (w.alloc (.cells c.toArray T)) (some ⟨w.heap.size,0,none⟩) 1 9 c:=by
 refine⟨Ya,h1,fun _=>⟨w.heap.size,0,rfl,Yd,fun j u hj=>?_⟩⟩
 rw[ZO,World.cell?_alloc_at _ _ _ _ rfl]
 simpa using hj
theorem zfW(l:zae)(a1 a2:Option Addr)(c1 c2:Nat):∀u∈zec l a1 a2 c1 c2,u.oneCell'=true:=by
 intro u hu;unfold zec at hu;simp at hu
 rcases hu with rfl|rfl|rfl|rfl|rfl|rfl|rfl|rfl|rfl<;>rfl
def zaW(w:World)(p:List Int×Int)(e:Ending)(w':World):Prop:=
 (∃a c,e=.returned (.tuple #[.slice a p.1.length c,.int .i64 p.2])/\z9 w' (fun b=>w.heap.size<=b) a p.1/\p.1.length<=c)/\Below w.heap.size w w'
theorem zaJ{p:List Int×Int}{n:Int}(h:p=([],n))(hb:Below w.heap.size w w'):zaW w p (.returned (.tuple #[.slice none 0 0,.int .i64 n])) w':=by
 subst h;exact⟨⟨none,0,rfl,z9.nil _ _ _,Za _⟩,hb⟩
def zbK(n:Nat):List (List Value):=List.replicate n (zec zbH none none 0 0)
theorem zba(n:Nat):(zbK n).length=n:=by unfold zbK;simp
theorem zgk(n:Nat):zbK n++[zec zbH none none 0 0]=zbK (n+1):=by unfold zbK;rw[List.replicate_succ']
theorem zhm{b1 b2:Option Addr}{d1 d2:Nat}(r1:zN w b1 l.weights)(r2:zN w b2 l.bias):
  (∀(j:Nat) (c:List Value) (x:zae),(zbK n++[zec l b1 b2 d1 d2])[j]? =some c->(List.replicate n zbH++[l])[j]? =some x->∃a1 a2 c1 c2,c=zec x a1 a2 c1 c2/\zN w a1 x.weights/\zN w a2 x.bias)/\
  ∀c∈zbK n++[zec l b1 b2 d1 d2],c.length=9:=by
 constructor
 ·intro j c x hc hx
  by_cases hj:j<n
  ·rw[Zx (by rw[zba];exact hj)]at hc;rw[Zx Ua]at hx;unfold zbK at hc;rw[List.getElem?_replicate,Zq hj,Zas]at hc hx;subst hc hx;exact⟨none,none,0,0,rfl,zN.nil _ _,zN.nil _ _⟩
  ·rw[ZG (by rw[zba];omega),zba]at hc;rw[ZG Yj,Za1]at hx;have h0:=(Zu.1 hc).1;simp at h0;obtain rfl:j=n:=Ya;simp at hc hx;subst hc hx;exact⟨b1,b2,d1,d2,rfl,r1,r2⟩
 ·intro c hc
  rcases Zay.1 hc with h|h
  ·rw[Za4 h];rfl
  ·simp at h;subst h;rfl
theorem zcW(h:w.ownsRow base E 9 v n xs):∃a c,v=.slice a n c:=by
 rcases h.2 with⟨rfl,rfl⟩|⟨g,cap,cur,rfl,_⟩
 ·exact⟨_,_,rfl⟩
 ·exact⟨_,_,rfl⟩
theorem zhk{s:List Int}(h:S[j]? =some s):(S.take (j+1)).all zm=((S.take j).all zm && zm s):=by
 rw[zaq h,ZbA];simp
theorem ztc{w:World}{u:Value}{input:List Int}{S:List (List Int)}{l:zae}{ai ash:Option Addr}(ci cs:Nat)(hi:z9 w Any ai input)(hS:za8 w Any ash S)(hu:zcG w u l)(hr:zO l)(hle:zbC l)(hn:S.length<=1000):
  Calls Tryz.prog 52 #[.slice ai input.length ci,.slice ash S.length cs,u] w (zaW w (zY input S l)):=by
 obtain⟨b1,b2,d1,d2,rfl,r1,r2⟩:=hu.ex;have q1:=hi.len;have q2:=hS.len;have q3:=r1.len;have q4:=r2.len;obtain⟨HI,HS,HU,R1,R2,HRg⟩:=hd6 hi hS hu r1 r2 hr;obtain⟨HLe,HN⟩:=hd2 hle hn;generalize hR:zY input S l=RR;have HR:=hid hR;unfold zY at hR;have HRd:=hid hR;clear hi hS hu r1 r2 hr hle hR
 go_enter Tryz.func52,Tryz.ntmps52
 go_upto_region 1 with fail
 have hb0:=blA w (zbu l b1 d1 b2 d2 44);have hx:=b9l w l b1 d1 b2 d2 44;generalize w.alloc (zbu l b1 d1 b2 d2 44)=W at *;obtain⟨HB0,HX⟩:=hd2 hb0 hx;clear hb0 hx
 go_upto_region 2 with fail
 have hmk:MkL W (W.alloc (.cells #[.slice ai input.length ci,.slice none 0 0] 25)) W.heap.size 25 (.slice ai input.length ci) (.slice none 0 0) (zbK 0):=by
  refine⟨?_,Zar _ _ _ _,VE,Za _,(Zg _ _).alloc (Za _) _⟩
  show(W.heap.push _)[W.heap.size]? =_
  exact Ij
 have HMk:=hid hmk;generalize W.alloc (.cells #[.slice ai input.length ci,.slice none 0 0] 25)=W1 at *;clear hmk;go_wp2
 go_loopw [10,17] (fun _ i wr=>∃(j:Nat) (v:Value),j<=S.length/\i=.int .i64 (j:Int)/\Hid ((S.take j).all zm=true)/\Hid (MkL W wr W.heap.size 25 (.slice ai input.length ci) v (zbK j))) (fun _ i _=>S.length-(intOf i).toNat)
 case atStart=>exact⟨0,_,Zs _,rfl,rfl,HMk.out⟩
 case round=>
  obtain⟨j,v,hj,rfl,HA,HM⟩:=hrel;have hbw:=HM.out.be
  by_cases hlt:j<S.length
  ·obtain⟨bb,off,s,aj,cj,rfl,hcell,hs,_,hIs,hbb,_⟩:=(HS.out.below (HB0.out.trans (hbw.mono HB0.out.size))).pickc hlt;obtain⟨HTk,HMem,HV⟩:=hd3 (zhk hs) (Zt hs) (zgH cj hIs);have ql:=hIs.len;clear hs hIs hbw
   cases hv:zm s with
   | false=>
    rw[hv]at HV;have HF:Hid (RR=([],1)):=Ow;clear hv
    go_wp2_with fail
    refine HV.out.mono ?_
    rintro e w' ⟨rfl,rfl⟩;go_wp2
    go_ret2
    exact zaJ HF.out (HB0.out.trans (HM.out.be.mono HB0.out.size))
   | true=>
    rw[hv]at HV;have HA2:Hid ((S.take (j+1)).all zm=true):=by unfold Hid;rw[HTk.out,HA.out,hv];rfl
    clear hv
    go_wp2_with fail
    refine HV.out.mono ?_
    rintro e w' ⟨rfl,rfl⟩;have k1:=HM.out.c1;have hj2:j<1000:=by have:=HN.out;omega
    clear hcell
    go_wp2_with (at_builtin;refine zZ rfl (.tmp 25) (.tmp 27) 23 23 rfl W.heap.size 44 (.agg #[.int .i64 0,.int .i64 0,.int .i64 0,.int .i64 0,.int .i64 0,.int .i64 0,.int .i64 0,.slice none 0 0,.slice none 0 0]) 9 104 Tryz.underlying23 Tryz.underlying23 Tryz.infoLay rfl Ya v j (zbK j).flatten rfl Yq (some ⟨wr.heap.size,0,none⟩) 1 1 (zec zbH none none 0 0) rfl (zcN wr (zec zbH none none 0 0) _ rfl (zfW _ _ _ _ _)) Ya Yh X8 ?_;intro v' w' hown hg hn2;obtain⟨av,cv,rfl⟩:=zcW hown;have k3:=(HM.out.mid (v':=.slice av (j+1) cv) (c:=zec zbH none none 0 0) hg).2.1;have k4:=(HM.out.mid (v':=.slice av (j+1) cv) (c:=zec zbH none none 0 0) hg).2.2;have HOwn:=hid hown;have HG:=hid hg;have HN2:=hid hn2;clear hown hg hn2)
    have hst:=HM.out.step (c:=zec zbH none none 0 0) XD HG.out HN2.out;rw[zgk]at hst;have HSt:=hid hst;clear hst k1 k3 k4;go_roundw
    case rel=>exact⟨j+1,_,hlt,Yg,HA2.out,HSt.out⟩
    case measure=>simp[intOf];omega
  ·obtain rfl:j=S.length:=Ya;have HAl:Hid (S.all zm=true):=by have:=HA.out;rwa [Z3]at this
   obtain⟨a0,c0,rfl⟩:=zcW HM.out.own;rw[zba]at HM;have HXw:=hid (HX.out.below HM.out.be);obtain⟨x0,x1,x2,x3,x4,x5,x6,x7,x8,xlt⟩:=HXw.out;have k1:=HM.out.c1;clear hbw hlt HMk
   go_wp2_with (at_builtin;refine zZ rfl (.tmp 32) (.tmp 34) 23 23 rfl W.heap.size 44 (.agg #[.int .i64 0,.int .i64 0,.int .i64 0,.int .i64 0,.int .i64 0,.int .i64 0,.int .i64 0,.slice none 0 0,.slice none 0 0]) 9 104 Tryz.underlying23 Tryz.underlying23 Tryz.infoLay rfl Ya (.slice a0 S.length c0) S.length (zbK S.length).flatten rfl Xi (some ⟨wr.heap.size,0,none⟩) 1 1 (zec l b1 b2 d1 d2) rfl (zcN wr (zec l b1 b2 d1 d2) _ rfl (zfW _ _ _ _ _)) Ya Yh X8 ?_;intro v' w' hown hg hn2;obtain⟨av,cv,rfl⟩:=zcW hown;have k3:=(HM.out.mid (v':=.slice av (S.length+1) cv) (c:=zec l b1 b2 d1 d2) hg).2.1;have k4:=(HM.out.mid (v':=.slice av (S.length+1) cv) (c:=zec l b1 b2 d1 d2) hg).2.2;have k5:w'.cell? ⟨W.heap.size,0,none⟩=some (.slice ai input.length ci):=(by have hbx:=(HM.out.mid (v':=.slice av (S.length+1) cv) (c:=zec l b1 b2 d1 d2) hg).1;simp[World.cell?,hbx]);have HOwn:=hid hown;have HG:=hid hg;have HN2:=hid hn2;clear hown hg hn2)
   have hst:=HM.out.step (c:=zec l b1 b2 d1 d2) XD HG.out HN2.out;have HSt:=hid hst;have hbe:=HB0.out.trans (hst.be.mono HB0.out.size);obtain⟨hrow,h9⟩:=zhm (n:=S.length) (l:=l) (d1:=d1) (d2:=d2) (R1.out.below hbe) (R2.out.below hbe);have hown2:=hst.own;rw[show(zbK S.length++[zec l b1 b2 d1 d2]).length=S.length+1 from Xj]at hown2;have hLL:(List.replicate S.length zbH++[l]).length=S.length+1:=Yd;obtain⟨a9,c9,hv9,hlays⟩:=zkf (L:=List.replicate S.length zbH++[l]) hown2 hLL.symm Ya Xj hrow h9;have hav:av=a9:=by injection hv9
   rw[<- hav]at hlays;have HLays:=hid hlays;have HVm:=hid (zpi (m:=⟨input,List.replicate S.length zbH++[l]⟩) ci cv (HI.out.below hbe) HLays.out (by
     intro x hx
     rcases Zay.1 hx with h|h
     ·rw[Za4 h];unfold zO zbH I64;simp
     ·simp at h;subst h;exact HRg.out) (by
     exact Eu))
   rw[zfx]at HVm;simp only[hLL]at HVm;have HBe:=hid hbe;clear hst hbe hrow h9 hown2 hLL hv9 hlays hav k1 k3 k4 k5 x0 x1 x2 x3 x4 x5 x6 x7 x8 xlt HOwn HG HN2;generalize w'.setCell ⟨W.heap.size,1,none⟩ (.slice av (S.length+1) cv)=w2 at *
   refine HVm.out.mono ?_
   rintro e w3 ⟨rfl,hb3⟩;have HB3:=htr HBe hb3;have HX3:=hid ((HX.out.below HSt.out.be).below hb3);clear hb3 HVm
   cases hvm:(zm input && (decide (S.length+1<=64) && zag l S.length))with
   | false=>
    have HF:Hid (RR=([],1)):=Kp;clear hvm;exact TV
   | true=>
    have HRe:Hid ((if(za5 input S l).2 && zm (za5 input S l).1 then((za5 input S l).1,0)else([],7))=RR):=by
     have h:=HRd.out;rw[hvm,HAl.out,Z0,Zq rfl]at h;exact h
    simp only[Zw,Zy]at hvm;obtain⟨hvi,hn64,hok⟩:=hvm;have hcur:zm (zk input S)=true:=by
     unfold zk
     cases hg:S.getLast? with
     | none=>exact hvi
     | some s=>exact Zap.1 HAl.out s (Za7 hg)
    have HO:=hid (zs4 (w:=w3) (input:=input) (S:=S) ⟨ai,ash,ci,cs,rfl,HI.out.below HB3.out,HS.out.below HB3.out⟩ (HU.out.below HB3.out) hok hcur);obtain⟨x0,x1,x2,x3,x4,x5,x6,x7,x8,xlt⟩:=HX3.out;clear hvi hn64 hok hcur
    go_wp2_with fail
    refine HO.out.mono ?_
    rintro e w4 ⟨⟨a4,c4,rfl,hI4⟩,hb4⟩;have HB4:=htr HB3 hb4;obtain⟨HI4,HV4⟩:=hd2 hI4 (zgH c4 hI4);have q5:=hI4.len;clear x0 x1 x2 x3 x4 x5 x6 x7 x8 xlt hb4 hI4 HO;generalize za5 input S l=raw at *;obtain⟨o,ok⟩:=raw;simp only at HI4 HV4 q5 HRe⊢
    cases ok with
    | false=>
     have HF:Hid (RR=([],7)):=by unfold Hid;rw[<- HRe.out];rfl
     go_wp2
     go_ret2
     exact zaJ HF.out HB4.out
    | true=>
     cases hvo:zm o with
     | false=>
      have HF:Hid (RR=([],7)):=V3;rw[hvo]at HV4;clear hvo
      go_wp2_with fail
      refine HV4.out.mono ?_
      rintro e w' ⟨rfl,rfl⟩;go_wp2
      go_ret2
      exact zaJ HF.out HB4.out
     | true=>
      have HF:Hid (RR=(o,0)):=V3;have HCl:=hid (zrv c4 HI4.out (zbN hvo).1 (zbN hvo).2);rw[hvo]at HV4;clear hvo
      go_wp2_with fail
      refine HV4.out.mono ?_
      rintro e w' ⟨rfl,rfl⟩
      go_wp2_with fail
      refine HCl.out.mono ?_
      rintro e w5 ⟨⟨a5,c5,rfl,hI5,hc5⟩,hb5⟩;have HI5:=hid hI5;have HB5:=htr HB4 hb5;have HC5:=hid hc5;clear hI5 hb5 hc5;go_wp2
      go_ret2
      rw[HF.out];exact⟨⟨a5,c5,rfl,HI5.out.mono (fun b _ hb=>Zl HB4.out.size hb),HC5.out⟩,HB5.out⟩
def zmx(w:World)(p:List (List Int)×Int×Int)(e:Ending)(w':World):Prop:=
 (∃a c,e=.returned (.tuple #[.slice a p.1.length c,.int .i64 p.2.1,.int .i64 p.2.2])/\za8 w' (fun b=>w.heap.size<=b) a p.1)/\Below w.heap.size w w'
theorem zg7{p:List (List Int)×Int×Int}{n:Int}(h:p=([],i,n))(hb:Below w.heap.size w w'):zmx w p (.returned (.tuple #[.slice none 0 0,.int .i64 i,.int .i64 n])) w':=by
 subst h;exact⟨⟨none,0,rfl,za8.nil _ _ _⟩,hb⟩
theorem zcC.lt{L:List (List Int)}(h:zcC w base E v xs L):∀b,v.ownBlock=some b->b<w.heap.size:=fun b hb=>(h.own.lt b hb).2
theorem zdN{fn:Func}{t u x:Tmp}(h:fn.results=#[.tmp t,.tmp u,.tmp x])(tmps:Array Value)(P:Program)(w:World):
  (results fn tmps).run P w=.ok (.tuple #[tmps.getD t undef,tmps.getD u undef,tmps.getD x undef]) w:=by
 simp[results,h]
theorem sOf{w:World}{m:zgt}{a1 a2:Option Addr}(c1 c2:Nat)(h1:z9 w Any a1 m.input)(h2:zaO w a2 m.layers)(hr:∀l∈m.layers,zO l)(hs:∀l∈m.layers,zbC l):
  Calls Tryz.prog 30 #[.agg #[.slice a1 m.input.length c1,.slice a2 m.layers.length c2]] w (zmx w (zab m)):=by
 have q1:=h1.len;have q2:=h2.len;obtain⟨H1,H2,HRg,HSh⟩:=hd4 h1 h2 hr hs;generalize hR:zab m=RR;have HR:=hid hR;unfold zab at hR;have HRd:=hid hR;clear h1 h2 hr hs hR
 go_enter Tryz.func30,Tryz.ntmps30
 go_upto_region 1 with fail
 have hb0:=blA w (.cells #[.slice a1 m.input.length c1,.slice a2 m.layers.length c2] 25);have hx:=za1.alloc w (.slice a1 m.input.length c1) (.slice a2 m.layers.length c2) 25;generalize w.alloc (.cells #[.slice a1 m.input.length c1,.slice a2 m.layers.length c2] 25)=W at *;obtain⟨HB0,HX⟩:=hd2 hb0 hx;obtain⟨x0,x1,xf,xlt⟩:=hx;clear hb0
 go_wp2_with fail
 refine(zpi c1 c2 (H1.out.below HB0.out) (H2.out.below HB0.out) HRg.out HSh.out).mono ?_
 rintro e w1 ⟨rfl,hb1⟩;have HX1:=hid (HX.out.below hb1);have HB1:=htr HB0 hb1;clear hb1 x0 x1 xf xlt
 cases hvm:zbl m with
 | false=>
  exact E7
 | true=>
  have HRe:Hid (zT m.input [] m.layers=RR):=Ko;have hv:=ziU hvm;have HL64:=hid hv.2.1;have hl64:=hv.2.1;obtain⟨x0,x1,xf,xlt⟩:=HX1.out;clear hvm hv;go_wp2;clear x0 x1 xf xlt
  go_loopw [5,16] (fun u i wr=>∃(j:Nat) (xs:List Value) (T:List (List Int)),j<=m.layers.length/\i=.int .i64 (j:Int)/\Hid (T.length=j)/\Hid (zT m.input T (m.layers.drop j)=RR)/\Hid (zcC wr w1.heap.size 22 u xs T)/\Hid (Below w1.heap.size w1 wr)) (fun _ i _=>m.layers.length-(intOf i).toNat)
  case atStart=>exact⟨0,[],[],Zs _,rfl,rfl,HRe.out,zcC.nil _ _ _,Zg _ _⟩
  case round=>
   obtain⟨j,xs,T,hj,rfl,HTl,HS,HOw,HB⟩:=hrel;have hbw:=HB1.out.trans (HB.out.mono HB1.out.size);obtain⟨av,cv,hu,hT⟩:=HOw.out.intss Xp;rw[HTl.out]at hu;subst hu
   by_cases hlt:j<m.layers.length
   ·obtain⟨x0,x1,xf,xlt⟩:=HX1.out.below HB.out;obtain⟨bl,ol,l,rfl,hbl,hl,b1,b2,d1,d2,⟨l0,l1,l2,l3,l4,l5,l6,l7,l8⟩,r1,r2⟩:=(H2.out.below hbw).pick hlt;have hmem:=Zt hl;have hdrop:m.layers.drop j=l::m.layers.drop (j+1):=UP;have HStep:Hid ((if(zY m.input T l).2=0 then zT m.input (T++[(zY m.input T l).1]) (m.layers.drop (j+1))else([],(j:Int),(zY m.input T l).2))=RR):=by
     have:=HS.out;rw[hdrop,zbx,HTl.out]at this;exact this
    have hbV:=blA wr (zbu l b1 d1 b2 d2 44);have hbW:=hbw.trans (hbV.mono hbw.size);obtain⟨HO,HBV⟩:=hd2 (ztc (u:=.agg #[.int .i64 l.kind,.int .i64 l.frm,.int .i64 l.out,.int .i64 l.kh,.int .i64 l.kw,.int .i64 l.stride,.int .i64 l.pad,.slice b1 l.weights.length d1,.slice b2 l.bias.length d2]) c1 cv (H1.out.below hbW) ((hT.mono (F':=Any) (fun _ _ _=>trivial)).below hbV) ⟨b1,b2,d1,d2,rfl,r1.below hbV,r2.below hbV⟩ (HRg.out l hmem) (HSh.out l hmem) Xp) hbV;have p1:=r1.len;have p2:=r2.len;rw[HTl.out]at HO;clear hmem hl hdrop hbV hbW hbw hT r1 r2 HS
    go_wp2_with fail
    refine HO.out.mono ?_
    rintro e w2 ⟨⟨a5,c5,rfl,hI5,hc5⟩,hb2⟩;obtain⟨HB2,HOw2,HI5,HC5⟩:=hd4 (HB.out.trans ((HBV.out.trans (hb2.mono HBV.out.size)).mono HB.out.size)) (HOw.out.frame (HBV.out.trans (hb2.mono HBV.out.size))) hI5 hc5;have HLt:Hid (∀b,(Value.slice av j cv).ownBlock=some b->b<(wr.alloc (zbu l b1 d1 b2 d2 44)).heap.size):=fun b hb=>by have:=HOw.out.lt b hb;simp;omega
    generalize wr.alloc (zbu l b1 d1 b2 d2 44)=V at *;have hgeV:Hid (w1.heap.size<=V.heap.size):=Zl HB.out.size HBV.out.size;generalize zY m.input T l=P at *;obtain⟨o,er⟩:=P;simp only at HI5 HC5 HStep⊢;clear x0 x1 xf xlt l0 l1 l2 l3 l4 l5 l6 l7 l8 hI5 hc5 hb2 HO
    by_cases he:er=0
    ·have HStep2:Hid (zT m.input (T++[o]) (m.layers.drop (j+1))=RR):=KA;have t1:(er != 0)=false:=VO;have t2:(er==0)=true:=VO;have t3:decide (¬ er=0)=false:=Jv;have HTj:=hid (show j<64 from Ya);clear he
     go_wp2_with (at_builtin;refine zal rfl (.tmp 33) (.tmp 35) 65 rfl w1.heap.size 22 (.slice none 0 0) 24 Tryz.underlying65 Yc rfl (.slice av j cv) j xs rfl KG (.slice a5 o.length c5) rfl rfl (by have:=HTj.out;omega) Vs (by exact HB2.out.size) ?_;intro v' w' hown hg hn2;have HOwn:=hid hown;have HG:=hid hg;have HN2:=hid hn2;clear hown hg hn2)
     have happ:=HOw2.out.app (l:=o) HI5.out HC5.out (fun b hb=>⟨Zl hgeV.out hb,fun e=>by have:=HLt.out b e;omega⟩) (by rw[HTl.out];exact HOwn.out) HG.out HN2.out;obtain⟨HApp,HB3⟩:=hd2 happ (HB2.out.grown HG.out HB2.out.size (fun k hk=>(HOw2.out.own.lt k hk).1));clear happ;go_roundw
     case rel=>exact⟨j+1,_,T++[o],hlt,Yg,KN,HStep2.out,HApp.out,HB3.out⟩
     case measure=>simp[intOf];omega
    ·have HF:Hid (RR=([],(j:Int),er)):=by unfold Hid;rw[<- HStep.out,Zh he]
     have t1:(er != 0)=true:=Xa;have t2:(er==0)=false:=by rw[Z7];exact he
     exact TY
   ·obtain rfl:j=m.layers.length:=Ya;have HF:Hid (RR=(T,0,0)):=by
     have h:=HS.out;rw[Zbu]at h;exact h.symm
    obtain⟨HT,HBw⟩:=hd2 hT hbw;exact TL
theorem z9.src1'{F:Nat->Prop}{l:List Int}(h:z9 w F a l):zhM w a l.length 1 (l.map (Value.int .i64)):=by
 refine⟨Yd,?_,fun hp=>?_⟩
 ·intro u hu;obtain⟨x,_,rfl⟩:=ZX.1 hu;rfl
 ·rcases h.row with rfl|⟨b,off,rfl,_,hb,hc⟩
  ·simp at hp
  ·refine⟨b,off,rfl,hb,fun j u hu=>?_⟩
   rw[ZV]at hu;obtain⟨d,hd,rfl⟩:=Option.map_eq_some_iff.1 hu;exact hc j d hd
theorem Tryz.infoIntS:(Tryz.prog.info? 3).map (fun i=>(i.zero,i.size,i.bytes))=some (some (.int .i64 0),1,8):=Yc
theorem zmU(w:World)(T:Nat):(w.alloc (.cells #[] T)).heap[w.heap.size]? =some (.cells #[] T (0,0)):=by
 show(w.heap.push _)[w.heap.size]? =_
 exact Ij
theorem zoP{l:List Int}(h:w.ownsRow base E 1 v n (l.map (Value.int .i64)))(hn:n=l.length)(hw:∀x∈l,I64 x)(hl:l.length<=9223372036854775807):
  ∃a c,v=.slice a l.length c/\z9 w (fun b=>base<=b) a l/\l.length<=c:=by
 subst hn
 rcases h.2 with⟨rfl,h0⟩|⟨g,cap,cur,rfl,hb,hg,hnc,_⟩
 ·rw[h0];have:l=[]:=ZA h0;subst this;exact⟨none,0,rfl,z9.nil _ _ _,Za _⟩
 ·refine⟨_,cap,rfl,⟨hw,hl,.inr ⟨g,0,rfl,hb,(ZF.1 hg).1,fun j d hj=>?_⟩⟩,hnc⟩
  have:=h.cells (g:=g) rfl j (.int .i64 d) (by rw[ZV,hj];rfl)
  simpa [Zav]using this
def znS(s:List Int):List Int×Int:=if zm s then(s,0)else([],7)
theorem zfj{w:World}{F:Nat->Prop}{a:Option Addr}{s:List Int}(c:Nat)(h:z9 w F a s):
  Calls Tryz.prog 96 #[.slice a s.length c] w (zaW w (znS s)):=by
 have hl:=h.len;obtain⟨H,HV⟩:=hd2 h (zbm c h);generalize hR:znS s=R;unfold znS at hR;clear h
 cases hv:zm s with
 | false=>
  rw[hv]at hR HV;have HF:Hid (R=([],7)):=hR.symm;clear hR hv
  go_enter Tryz.func96,Tryz.ntmps96
  go_wp2_with fail
  refine HV.out.mono ?_
  rintro e w' ⟨rfl,rfl⟩;go_wp2
  go_ret2
  exact zaJ HF.out (Zg _ _)
 | true=>
  have hlen:=(zbN hv).2;rw[hv]at hR HV;have HF:Hid (R=(s,0)):=hR.symm;clear hR hv
  go_enter Tryz.func96,Tryz.ntmps96
  go_wp2_with fail
  refine HV.out.mono ?_
  rintro e w' ⟨rfl,rfl⟩
  go_wp2_with (at_builtin;refine zZ rfl (.tmp 7) (.tmp 8) 22 22 rfl w.heap.size 3 (.int .i64 0) 1 8 Tryz.underlying22 Tryz.underlying22 Tryz.infoIntS rfl Ya (.slice (some ⟨w.heap.size,0,none⟩) 0 0) 0 [] rfl (zdJ (zmU _ _) (Za _)) a s.length c _ rfl (H.out.below ((Zg w.heap.size w).alloc (Za _) (.cells #[] 3))).src1' Ya Yh Yd ?_;intro v' w' hown hg hn2;have HOwn:=hid hown;have HG:=hid hg;clear hown hg hn2)
  have hown:=HOwn.out;rw[ZaP]at hown;obtain⟨a',c',hv',hI,hc⟩:=zoP hown Ya H.out.wf hl;subst hv';obtain⟨HI,HC,HB⟩:=hd3 hI hc (((Zg w.heap.size w).alloc (Za _) (.cells #[] 3)).grown HG.out Yd (fun k hk=>by simp[Value.ownBlock]at hk;omega));clear hown hI hc
  go_ret2
  rw[HF.out];exact⟨⟨a',c',rfl,HI.out,HC.out⟩,HB.out⟩
def zbt(p:Value->Bool)(w:World)(g:Nat):Prop:=∀(o:Nat) (u:Value),w.cell? ⟨g,o,none⟩=some u->p u=true
def zij(p:Value->Bool)(w:World)(v:Value):Prop:=∀g,v.ownBlock=some g->zbt p w g
theorem zbt.of_heap{p:Value->Bool}{c:Array Value}{f:Nat×Nat}(h:w.heap[g]? =some (.cells c T f))(hc:∀u∈c,p u=true):zbt p w g:=by
 intro o x e;simp only[World.cell?,h]at e;exact hc _ (Zbj e)
theorem zbt.below{p:Value->Bool}(h:zbt p w g)(hb:Below w.heap.size w w')(hg:g<w.heap.size):zbt p w' g:=fun o x e=>h o x ((hb.cell (p:=⟨g,o,none⟩) hg).symm.trans e)
theorem zj6{p:Value->Bool}{z:Value}(h:∀u∈z.cells,p u=true):∀u∈Builtin.zeroCells z.cells n,p u=true:=Tf
theorem zeh{P:Program}(p:Value->Bool)(w:World)(base:Nat)(t ty e:TypeId)(i:TypeInfo)(z:Value)(size bytes:Nat)(ht:P.underlying t=some (.slice e))(hi:P.info? e=some i)(hz:i.zero=some z)
 (hsize:i.size=size)(hby:i.bytes=bytes)(hzs:z.cells.size=size)(hsz:0<size)
 (v:Value)(n:Nat)(xs:List Value)(hown:w.ownsRow base e size v n xs)
 (a:Addr)(m c:Nat)(news:List Value)(hl:news.length=m*size)(hnews:∀j u,news[j]? =some u->w.cell? (a.add j)=some u)(h1:∀u∈news,u.oneCell'=true)
 (hm:0<m)(h63:n+m<=maxLen)(hbytes:(n+m)*bytes<=140737488355328)(hbase:base<=w.heap.size)
 (hno:zij p w v)(hnn:∀u∈news,p u=true)(hzn:∀u∈z.cells,p u=true):
  ∃v' w',(Builtin.append_ #[t,t] ty #[v,.slice (some a) m c]).run P w=.ok v' w'/\w'.ownsRow base e size v' (n+m) (xs++news)/\w.grownBy w' v.ownBlock/\ziB w v v'/\zij p w' v':=by
 obtain⟨v',w',hr,h2,h3,h4⟩:=zbw (P:=P) w base t ty e i z size bytes ht hi hz hsize hby hzs hsz v n xs hown a m c news hl hnews h1 hm h63 hbytes hbase
 refine⟨v',w',hr,h2,h3,h4,?_⟩
 subst hsize;subst hby;have hsmall:n+m<=9223372036854775807:=XM
 rcases hown.2 with⟨rfl,rfl⟩|⟨g,cap,cur,rfl,hbg,hg,hnc,hcm,hcs,htake⟩
 ·have hr':=run_append_nil (P:=P) w t ty e i z ht hi hz a m c news hl hnews hm Ya XL;rw[hr']at hr;cases hr;intro g' hg';cases hg'
  refine zbt.of_heap (Za5 w.drew _) ?_
  intro u hu
  rcases Array.mem_append.1 hu with hu|hu
  ·exact hnn _ XZ
  ·exact zj6 hzn _ hu
 ·have hcur:∀u∈cur,p u=true:=by
   intro u hu;obtain⟨j,hj⟩:=Array.getElem?_of_mem hu;exact hno g rfl j u JX
  by_cases hroom:n+m<=cap
  ·have hfit:n*i.size+news.length<=cur.size:=YU;have hr':=run_append_room (P:=P) w t ty e i ht hi g n cap cur hg a m c news hl hnews h1 hroom hfit;rw[hr']at hr;cases hr;intro g' hg';cases hg';intro o x ee;simp only[World.cell?,World.setRow]at ee;have hgs:=(ZF.1 hg).1;have hmem:∀u∈(cur.toList.take (n*i.size)++news++cur.toList.drop (n*i.size+news.length)),p u=true:=Eh;have key:∀(u:Value),(cur.toList.take (n*i.size)++news++cur.toList.drop (n*i.size+news.length)).toArray[o]? =some u->p u=true:=fun u hu=>hmem u JR
   have hcell:(w.setRow g (cur.toList.take (n*i.size)++news++cur.toList.drop (n*i.size+news.length)).toArray).cell? ⟨g,o,none⟩=(cur.toList.take (n*i.size)++news++cur.toList.drop (n*i.size+news.length)).toArray[o]? :=by
    simp[World.cell?,World.setRow,Zbk,hg]
   exact key x (hcell.symm.trans Jl)
  ·have holds:∀j u,xs[j]? =some u->w.cell? ((⟨g,0,none⟩:Addr).add j)=some u:=hown.cells (g:=g) rfl;have hr':=run_append_grow (P:=P) w t ty e i z ht hi hz ⟨g,0,none⟩ n cap xs hown.1 holds a m c news hl hnews Ya Ya (growslice_fits Ya hbytes);rw[hr']at hr;cases hr;intro g' hg';cases hg'
   refine zbt.of_heap (Za5 w.drew _) ?_
   intro u hu
   rcases Array.mem_append.1 hu with hu|hu
   ·exact Ek
   ·exact zj6 hzn _ hu
def isS(v:Value):Bool:=match v with | .slice _ _ _=>true|_=>false
theorem zlg(h:w.ownsRow base T 1 v n xs):∃a c,v=.slice a n c/\n<=c:=T7
def zpG(w:World)(a:Option Addr)(L:List zae):Prop:=∀(b off j:Nat) (l:zae) (a1:Option Addr) (n c1:Nat),a=some ⟨b,off,none⟩->L[j]? =some l->w.cell? ⟨b,off+j*9+7,none⟩=some (.slice a1 n c1)->n<=c1
theorem zpG.below(h:zpG w a L)(h2:zaO w a L)(hb:Below w.heap.size w w'):zpG w' a L:=by
 intro b off j l a1 n c1 ha hj hc
 rcases h2.row with rfl|⟨b',off',e,hs,_⟩
 ·simp at hj
 ·rw[ha]at e;cases e;exact h b off j l a1 n c1 ha hj ((hb.cell (p:=⟨b,off+j*9+7,none⟩) hs).symm.trans hc)
def zgw(k D B:Nat):Prop:=∀D' B',D'<=D*WQ^k->B'<=9671406556917033397649408^k*B->zp2 D' B'
theorem zgw.now(h:zgw k D B):zp2 D B:=
 h D B (ZaN _ (Nat.pow_pos zeH)) (Zag _ (Nat.pow_pos Ya))
theorem zgw.next(h:zgw (k+1) D B)(hj:j<=WQ):zgw k (D*j) (9671406556917033397649408*B):=by
 intro D' B' hD hB
 refine h D' B' (Zl hD ?_) (Zl hB ?_)
 ·rw[ZaQ,ZM,Zz j];exact ZT _ (ZT _ hj)
 ·rw[ZaQ,<- ZM];exact Za _
end Go.Proofs.YtfgmmghmmfmdgaaGreat
namespace Go.Proofs.YtfgmmghmmfmdgaaGreat
open Go.RowKit Go.ChangeShapes Go.WideShapes Go.ChangeAt Go.Deep
open Go.Lib (hid)
section
variable {H:Type} {enc:TypeId×Value->H} {w:World} {base:Nat} {spare:Nat->Bool} {held:Bool}
theorem zo5{fuel:Nat}{a:Option Addr}{n k:Nat}{x:DataW H×List MemPlace}(h:DataW.trod enc Tryz.prog w base spare held fuel 35 [.slice a n k]=some x):n<=k:=by
 obtain⟨f0,f1,f2,hs,hone,t0,t1,t2⟩:=Tryz.rat_parts;obtain⟨a',len,cap,e,h1,_⟩:=zgA Tryz.underlying35 hs hone Yc Yd h;cases e;exact h1
theorem zo6{fuel:Nat}{a:Option Addr}{L:List zae}{k:Nat}{x:DataW H×List MemPlace}(h:DataW.trod enc Tryz.prog w base spare held fuel 23 [.slice a L.length k]=some x):zpG w a L:=by
 intro b off j l a1 n c1 ha hj hc;have hlt:=(Zu.1 hj).1;obtain⟨f0,f1,f2,f3,f4,f5,f6,f7,f8,hs,hone,t0,t1,t2,t3,t4,t5,t6,t7,t8⟩:=Tryz.layL_parts;subst ha;obtain⟨ys,m,hys,hf⟩:=zex Tryz.underlying23 hs hone Yc h hlt;obtain⟨d1,y1,e1,g1,k1⟩:=hf 7 f7 rfl;rw[show(#[f0,f1,f2,f3,f4,f5,f6,f7,f8]:Array Field).size=9 from rfl]at e1;rw[hc,Zas]at e1;subst e1;rw[t7]at k1;exact zo5 k1
theorem zjU{r:Reach}{b0:Nat}{v:Value}{d:DataW H}{p:List MemPlace}(hv:Value.okWide Tryz.prog w r b0 25 v)
 (h:DataW.Trod enc Tryz.prog w base spare held 25 v d p)(hB:Rows.uptoBulk d<=1048576):∃(m:zgt) (a1 a2:Option Addr) (c1 c2:Nat),v=.agg #[.slice a1 m.input.length c1,.slice a2 m.layers.length c2]/\m.layers.length<=c2/\z9 w Any a1 m.input/\zaO w a2 m.layers/\zpG w a2 m.layers/\(∀l∈m.layers,zO l)/\∀l∈m.layers,zbC l:=by
 obtain⟨f0,f1,hs,hone,t0,t1⟩:=Tryz.model_parts;obtain⟨cs,ys,n,rfl,hcl,hyl,hd,hf⟩:=zjC hs hone Yc hv h;obtain⟨v0,v1,rfl⟩:=zrE hcl;obtain⟨c0,y0,e0,_,g0⟩:=hf 0 f0 rfl;obtain⟨c1,y1,e1,hy1,g1⟩:=hf 1 f1 rfl;simp only[Zc,Zb,Zas]at e0 e1;subst e0 e1;rw[t0]at g0;rw[t1]at g1;obtain⟨a0,l0,m0,q0,i0,b0',_⟩:=zjJ Tryz.underlying22 Tryz.underlying3 Tryz.cellsInt1 g0;simp only[List.cons.injEq,ZK]at q0;subst q0;have hb1:Rows.uptoBulk y1.1<=1048576:=by
  have:=zgQ (List.mem_map_of_mem (f:=(·.1)) (Zt hy1));have h2:=zko (ys.map (·.1));rw[hd]at hB;omega
 obtain⟨a1,l1,m1,rfl,k1,i1,r1⟩:=zj1 g1;have hle:=zqJ g1 i1 hb1;exact⟨⟨l0,l1⟩,a0,a1,m0,m1,rfl,k1,i0,i1,zo6 g1,r1,fun l hl=>⟨(hle l hl).1,(hle l hl).2⟩⟩
end
end Go.Proofs.YtfgmmghmmfmdgaaGreat
namespace Go.Proofs.YtfgmmghmmfmdgaaGreat
open Go.RowKit
open Go.Lib (hid)
section
variable {α:Type}
structure ze8 (P:World->Value->Value->Value->Value->α->Prop) (w:World) (a:Option Addr) (L:List α):Prop where
 len:L.length<=9223372036854775807
 row:L=[] ∨ ∃b off,a=some ⟨b,off,none⟩/\b<w.heap.size/\∀(j:Nat) (x:α),L[j]? =some x->∃p0 p1 p2 p3,w.cell? ⟨b,off+j*4,none⟩=some p0/\w.cell? ⟨b,off+j*4+1,none⟩=some p1/\w.cell? ⟨b,off+j*4+2,none⟩=some p2/\w.cell? ⟨b,off+j*4+3,none⟩=some p3/\P w p0 p1 p2 p3 x
structure zeO (P:World->Value->Value->Value->Value->α->Prop) (p:Value->Bool):Prop where
 below:∀{w w':World} {p0 p1 p2 p3:Value} {x:α},P w p0 p1 p2 p3 x->Below w.heap.size w w'->P w' p0 p1 p2 p3 x
 grown:∀{w w':World} {v p0 p1 p2 p3:Value} {x:α},P w p0 p1 p2 p3 x->w.grownBy w' v.ownBlock->zij p w v->P w' p0 p1 p2 p3 x
 one:∀{w:World} {p0 p1 p2 p3:Value} {x:α},P w p0 p1 p2 p3 x->∀u∈[p0,p1,p2,p3],u.oneCell'=true/\p u=true
variable {P:World->Value->Value->Value->Value->α->Prop} {p:Value->Bool}
theorem ze8.nil(w:World)(a:Option Addr):ze8 P w a []:=⟨Zs _,.inl rfl⟩
theorem ze8.below{w w':World}{a:Option Addr}{L:List α}(h:ze8 P w a L)(hP:zeO P p)(hb:Below w.heap.size w w'):ze8 P w' a L:=by
 refine⟨h.len,h.row.imp id ?_⟩
 rintro⟨b,off,rfl,hs,hc⟩
 refine⟨b,off,rfl,Zd hs hb.size,fun j x hj=>?_⟩
 obtain⟨p0,p1,p2,p3,h0,h1,h2,h3,h4⟩:=hc j x hj;exact⟨p0,p1,p2,p3,(hb.cell hs).trans h0,(hb.cell hs).trans h1,(hb.cell hs).trans h2,(hb.cell hs).trans h3,hP.below h4 hb⟩
theorem ze8.pick{w:World}{a:Option Addr}{L:List α}(h:ze8 P w a L){k:Nat}(hk:k<L.length):
  ∃b off x p0 p1 p2 p3,a=some ⟨b,off,none⟩/\b<w.heap.size/\L[k]? =some x/\w.cell? ⟨b,off+k*4,none⟩=some p0/\w.cell? ⟨b,off+k*4+1,none⟩=some p1/\w.cell? ⟨b,off+k*4+2,none⟩=some p2/\w.cell? ⟨b,off+k*4+3,none⟩=some p3/\P w p0 p1 p2 p3 x:=by
 rcases h.row with rfl|⟨b,off,rfl,hb,hc⟩
 ·simp at hk
 ·have hd:L[k]? =some L[k]:=Vy;obtain⟨p0,p1,p2,p3,h0,h1,h2,h3,h4⟩:=hc k _ hd;exact⟨b,off,L[k],p0,p1,p2,p3,rfl,hb,hd,h0,h1,h2,h3,h4⟩
theorem ze8.drop{w:World}{b off:Nat}{L:List α}(h:ze8 P w (some ⟨b,off,none⟩) L)(k:Nat):ze8 P w (some ⟨b,off+k*4,none⟩) (L.drop k):=by
 refine⟨by have:=h.len;rw[Zbg];omega,?_⟩
 rcases h.row with rfl|⟨b',off',e,hb,hc⟩
 ·exact .inl Yd
 ·cases e
  refine .inr ⟨b,off+k*4,rfl,hb,fun j x hj=>?_⟩
  rw[List.getElem?_drop]at hj;obtain⟨p0,p1,p2,p3,h0,h1,h2,h3,h4⟩:=hc (k+j) x hj;have e:off+k*4+j*4=off+(k+j)*4:=by rw[ZI];omega
  rw[e];exact⟨p0,p1,p2,p3,h0,h1,h2,h3,h4⟩
theorem ze8.take{w:World}{a:Option Addr}{L:List α}(h:ze8 P w a L)(k:Nat):ze8 P w a (L.take k):=by
 refine⟨by have:=h.len;rw[ZZ];omega,?_⟩
 rcases h.row with rfl|⟨b,off,rfl,hb,hc⟩
 ·exact .inl Yd
 ·refine .inr ⟨b,off,rfl,hb,fun j x hj=>hc j x ?_⟩
  have hlt:=(Zu.1 hj).1;rw[ZZ]at hlt;rw[ZaU Ya]at hj;exact hj
structure zdC (P:World->Value->Value->Value->Value->α->Prop) (p:Value->Bool) (T:TypeId) (w:World) (base:Nat) (v:Value) (L:List α):Prop where
 ex:∃xs,w.ownsRow base T 4 v L.length xs/\∀(j:Nat) (x:α),L[j]? =some x->∃p0 p1 p2 p3,xs[j*4]? =some p0/\xs[j*4+1]? =some p1/\xs[j*4+2]? =some p2/\xs[j*4+3]? =some p3/\P w p0 p1 p2 p3 x
 al:zij p w v
variable {T:TypeId}
theorem zdC.nil(w:World)(base:Nat):zdC P p T w base (.slice none 0 0) []:=⟨⟨[],Zar _ _ _ _,Yd⟩,VR⟩
theorem zdC.lt{w:World}{base:Nat}{v:Value}{L:List α}(h:zdC P p T w base v L){k:Nat}(hk:v.ownBlock=some k):base<=k/\k<w.heap.size:=by
 obtain⟨xs,ho,_⟩:=h.ex;exact ho.lt k hk
theorem zdC.below{w w':World}{base:Nat}{v:Value}{L:List α}(h:zdC P p T w base v L)(hP:zeO P p)(hb:Below w.heap.size w w'):zdC P p T w' base v L:=by
 obtain⟨xs,ho,he⟩:=h.ex
 refine⟨⟨xs,ho.kept (row:=none) ⟨hb.os,hb.tape,hb.output,hb.size,fun k hk _=>hb.block k hk⟩ XR,fun j x hj=>?_⟩,fun g hg=>(h.al g hg).below hb (h.lt hg).2⟩
 obtain⟨p0,p1,p2,p3,h0,h1,h2,h3,h4⟩:=he j x hj;exact⟨p0,p1,p2,p3,h0,h1,h2,h3,hP.below h4 hb⟩
theorem zc4{w:World}{base T n:Nat}{v:Value}{xs:List Value}(h:w.ownsRow base T 4 v n xs):∃a c,v=.slice a n c/\n<=c:=T7
theorem zdC.form{w:World}{base:Nat}{v:Value}{L:List α}(h:zdC P p T w base v L):∃a c,v=.slice a L.length c/\L.length<=c:=by
 obtain⟨xs,ho,_⟩:=h.ex;exact zc4 ho
theorem zdC.read{w:World}{base:Nat}{a:Option Addr}{n c:Nat}{L:List α}(h:zdC P p T w base (.slice a n c) L)(hl:L.length<=9223372036854775807):ze8 P w a L:=by
 obtain⟨xs,ho,he⟩:=h.ex
 rcases ho.2 with⟨e,hn⟩|⟨g,cap,cur,e,hb,hg,hnc,hcm,hcs,htake⟩
 ·exact⟨hl,.inl (ZA hn)⟩
 exact UC
structure zdp (P:World->Value->Value->Value->Value->α->Prop) (w:World) (v:Value) (x:α):Prop where
 ex:∃g p0 p1 p2 p3,v=.slice (some ⟨g,0,none⟩) 1 1/\g<w.heap.size/\w.cell? ⟨g,0,none⟩=some p0/\w.cell? ⟨g,1,none⟩=some p1/\w.cell? ⟨g,2,none⟩=some p2/\w.cell? ⟨g,3,none⟩=some p3/\P w p0 p1 p2 p3 x
theorem zdp.alloc{w:World}{p0 p1 p2 p3:Value}{x:α}(hP:zeO P p)(h:P w p0 p1 p2 p3 x)(T:Nat):zdp P (w.alloc (.cells #[p0,p1,p2,p3] T)) (.slice (some ⟨w.heap.size,0,none⟩) 1 1) x:=by
 have hb:Below w.heap.size w (w.alloc (.cells #[p0,p1,p2,p3] T)):=(Zg _ w).alloc (Za _) _;exact⟨w.heap.size,p0,p1,p2,p3,rfl,Yd,by rw[World.cell?_alloc_at _ _ _ _ rfl];rfl,by rw[World.cell?_alloc_at _ _ _ _ rfl];rfl,by rw[World.cell?_alloc_at _ _ _ _ rfl];rfl,by rw[World.cell?_alloc_at _ _ _ _ rfl];rfl,hP.below h hb⟩
theorem zdp.below{w w':World}{v:Value}{x:α}(h:zdp P w v x)(hP:zeO P p)(hb:Below w.heap.size w w'):zdp P w' v x:=by
 obtain⟨g,p0,p1,p2,p3,e,hg,h0,h1,h2,h3,h4⟩:=h.ex;exact⟨g,p0,p1,p2,p3,e,Zd hg hb.size,(hb.cell (p:=⟨g,0,none⟩) hg).trans h0,(hb.cell (p:=⟨g,1,none⟩) hg).trans h1,(hb.cell (p:=⟨g,2,none⟩) hg).trans h2,(hb.cell (p:=⟨g,3,none⟩) hg).trans h3,hP.below h4 hb⟩
theorem zdC.app{w w':World}{base:Nat}{v v':Value}{L:List α}{x:α}{p0 p1 p2 p3:Value}{xs:List Value}(hP:zeO P p)(h:zdC P p T w base v L)
 (he:∀(j:Nat) (x:α),L[j]? =some x->∃p0 p1 p2 p3,xs[j*4]? =some p0/\xs[j*4+1]? =some p1/\xs[j*4+2]? =some p2/\xs[j*4+3]? =some p3/\P w p0 p1 p2 p3 x)(hxl:xs.length=L.length*4)(hx:P w p0 p1 p2 p3 x)
 (hown:w'.ownsRow base T 4 v' (L.length+1) (xs++[p0,p1,p2,p3]))(hg:w.grownBy w' v.ownBlock)(hno:zij p w' v'):zdC P p T w' base v' (L++[x]):=by
 refine⟨⟨_,VA,fun j y hj=>?_⟩,hno⟩
 by_cases hlt:j<L.length
 ·rw[Zx hlt]at hj;obtain⟨r0,r1,r2,r3,q0,q1,q2,q3,q4⟩:=he j y hj
  refine⟨r0,r1,r2,r3,?_,?_,?_,?_,hP.grown q4 hg h.al⟩
  ·rw[Zx Ya];exact q0
  ·rw[Zx Ya];exact q1
  ·rw[Zx Ya];exact q2
  ·rw[Zx Ya];exact q3
 ·have hlt':=(Zu.1 hj).1;simp only[ZB,ZJ,ZaK]at hlt';obtain rfl:j=L.length:=Ya;have e2:y=x:=VN;subst e2
  refine⟨p0,p1,p2,p3,?_,?_,?_,?_,hP.grown hx hg h.al⟩
  ·rw[ZG Ya];simp[hxl]
  ·rw[ZG Ya,show L.length*4+1-xs.length=1 from Ya];rfl
  ·rw[ZG Ya,show L.length*4+2-xs.length=2 from Ya];rfl
  ·rw[ZG Ya,show L.length*4+3-xs.length=3 from Ya];rfl
theorem zew{Pr:Program}{w:World}{ops:Array Oper}{rest:List Oper}{o:Oper}{a:Act}{Q:Exit->Act->World->Prop}(hP:zeO P p)(z0 z1 z2 z3:Value)(bytes:Nat)(hz:∀u∈[z0,z1,z2,z3],p u=true)(hgd:o.guard=none)(s x:Operand)(t:TypeId)
 (ho:o.op=.call { callee:=.builtin .append,args:=#[s,x],argTypes:=#[t,t] })
 (base:Nat)(ht:Pr.underlying t=some (.slice T))(hinfo:(Pr.info? T).map (fun i=>(i.zero,i.size,i.bytes))=some (some (.agg #[z0,z1,z2,z3]),4,bytes))(hby2:bytes<=80)
 (v:Value)(n:Nat)(L:List α)(hn:L.length=n)(hs:a.eval s=v)(hown:zdC P p T w base v L)(u:Value)(y:α)(hu:zdp P w u y)
 (hx:a.eval x=u)(hL:n+1<=1000000000000)(hbase:base<=w.heap.size)
 (h:∀b k w',zdC P p T w' base (.slice b (n+1) k) (L++[y])->n+1<=k->w.grownBy w' v.ownBlock->Below base w w'->ziB w v (.slice b (n+1) k)->wpList Pr ops Q rest (a.put o.dst (.slice b (n+1) k)) w'):
  wpList Pr ops Q (o::rest) a w:=by
 subst hn
 refine wpList_plain hgd fun K hK=>?_
 obtain⟨i,hi,hzz,hsize,hby⟩:=info_parts hinfo;obtain⟨xs,hox,he⟩:=hown.ex;obtain⟨g,p0,p1,p2,p3,rfl,hg,c0,c1,c2,c3,hy⟩:=hu.ex;have hcells:∀(j:Nat) (u:Value),[p0,p1,p2,p3][j]? =some u->w.cell? (Addr.add ⟨g,0,none⟩ j)=some u:=by
  intro j u hj;rw[Zav]
  match j,hj with
  | 0,hj=>rw[<- hj];exact c0
  | 1,hj=>rw[<- hj];exact c1
  | 2,hj=>rw[<- hj];exact c2
  | 3,hj=>rw[<- hj];exact c3
 obtain⟨v',w',hr,r2,r3,r4,r5⟩:=zeh (P:=Pr) p w base t o.type _ i _ 4 bytes ht hi hzz hsize hby VL Ya v L.length xs hox ⟨g,0,none⟩ 1 1
  [p0,p1,p2,p3] rfl hcells (fun u hu=>(hP.one hy u hu).1) Ya Yh
  (Zl (ZT _ hby2) Ya) hbase
  hown.al (fun u hu=>(hP.one hy u hu).2) (by intro u hu;simp[Value.cells]at hu;exact hz u XZ)
 have hO:=hown.app (x:=y) (w':=w') (v':=v') (xs:=xs) hP he hox.1 hy r2 r3 r5;have hbe:Below base w w':=(Zg base w).grown r3 hbase (fun k hk=>(hown.lt hk).1);obtain⟨b,k,e,hk⟩:=zc4 r2;subst e;unfold Oper.wp execOp;simp only[ho,resolve,invoke,builtin,Sem.run_bind,Sem.run_pure,Result.andThen_ok,List.map_toArray,ZbB,List.map_nil,hs,hx,hr];exact hK _ _ (h b k w' hO hk r3 hbe r4)
end
structure zbA (w:World) (p1 p2 p3:Value) (q:Rat):Prop where
 ex:∃an ad cn cd,p1=.bool (zh q).neg/\p2=.slice an (zh q).num.length cn/\p3=.slice ad (zh q).den.length cd/\(zh q).num.length<=cn/\(zh q).den.length<=cd/\zt w an (zh q).num/\zt w ad (zh q).den
theorem zbA.below{w w':World}{p1 p2 p3:Value}{q:Rat}(h:zbA w p1 p2 p3 q)(hb:Below w.heap.size w w'):zbA w' p1 p2 p3 q:=by
 obtain⟨an,ad,cn,cd,e1,e2,e3,l1,l2,u1,u2⟩:=h.ex;exact⟨an,ad,cn,cd,e1,e2,e3,l1,l2,u1.below hb,u2.below hb⟩
theorem zbA.grown{w w':World}{v p1 p2 p3:Value}{q:Rat}(h:zbA w p1 p2 p3 q)(hg:w.grownBy w' v.ownBlock)(hn:NoO w v):zbA w' p1 p2 p3 q:=by
 obtain⟨an,ad,cn,cd,e1,e2,e3,l1,l2,u1,u2⟩:=h.ex;exact⟨an,ad,cn,cd,e1,e2,e3,l1,l2,u1.grown hg hn,u2.grown hg hn⟩
theorem zbA.val{w:World}{p1 p2 p3:Value}{q:Rat}(h:zbA w p1 p2 p3 q):RatV w (.agg #[p1,p2,p3]) (zh q):=by
 obtain⟨an,ad,cn,cd,rfl,rfl,rfl,l1,l2,u1,u2⟩:=h.ex;exact⟨an,ad,cn,cd,rfl,l1,l2,u1,u2⟩
theorem zbA.of{w:World}{v:Value}{q:Rat}(h:RatV w v (zh q)):∃p1 p2 p3,v=.agg #[p1,p2,p3]/\zbA w p1 p2 p3 q:=by
 obtain⟨an,ad,cn,cd,rfl,l1,l2,u1,u2⟩:=h.ex;exact⟨_,_,_,rfl,an,ad,cn,cd,rfl,rfl,rfl,l1,l2,u1,u2⟩
theorem zij.noI{w:World}{v:Value}(h:zij noI w v):NoO w v:=fun g hg o x e=>by have:=h g hg o _ e;cases this
def zd9(w:World)(p0 p1 p2 p3:Value)(t:Nat×Rat):Prop:=p0=.int .i64 (t.1:Int)/\zbA w p1 p2 p3 t.2
theorem zbI:zeO zd9 noI where
 below:=fun⟨e,h⟩ hb=>⟨e,h.below hb⟩
 grown:=fun⟨e,h⟩ hg ha=>⟨e,h.grown hg ha.noI⟩
 one:=by
  rintro w p0 p1 p2 p3 x ⟨rfl,h⟩ u hu;exact EP
abbrev z8(w:World)(a:Option Addr)(L:List (Nat×Rat)):Prop:=ze8 zd9 w a L
def zb5(v:Value):Bool:=match v with | .slice _ _ _=>true | .bool _=>true|_=>false
theorem zij.bs{w:World}{v:Value}(h:zij zb5 w v):NoO w v:=fun g hg o x e=>by have:=h g hg o _ e;cases this
theorem zjL{w w':World}{a:Option Addr}{L:List (Nat×Rat)}{v:Value}(h:z8 w a L)(hg:w.grownBy w' v.ownBlock)(hn:zij zb5 w v):z8 w' a L:=by
 refine⟨h.len,?_⟩
 rcases h.row with rfl|⟨b,off,rfl,hb,hc⟩
 ·exact .inl rfl
 ·by_cases hL:L=[]
  ·exact .inl hL
  ·have hp:=ZH.2 hL;have hne:some b≠v.ownBlock:=by
    intro e;obtain⟨p0,p1,p2,p3,h0,_,_,_,h4⟩:=hc 0 L[0] (Zn hp);rw[h4.1]at h0;have:=hn b e.symm _ _ h0;cases this
   refine .inr ⟨b,off,rfl,Zd hb hg.size,fun j x hj=>?_⟩
   obtain⟨p0,p1,p2,p3,h0,h1,h2,h3,h4⟩:=hc j x hj;have hcell:∀o,w'.cell? ⟨b,o,none⟩=w.cell? ⟨b,o,none⟩:=fun o=>ZR (hg.block b hb hne)
   exact⟨p0,p1,p2,p3,(hcell _).trans h0,(hcell _).trans h1,(hcell _).trans h2,(hcell _).trans h3,h4.1,h4.2.grown hg hn.bs⟩
def zaG(w:World)(p0 p1 p2 p3:Value)(f:zl):Prop:=(∃a c,p0=.slice a f.ts.length c/\f.ts.length<=c/\z8 w a f.ts)/\zbA w p1 p2 p3 f.c
theorem zaR:zeO zaG zb5 where
 below:=fun⟨⟨a,c,e,hc,h⟩,k⟩ hb=>⟨⟨a,c,e,hc,h.below zbI hb⟩,k.below hb⟩
 grown:=fun⟨⟨a,c,e,hc,h⟩,k⟩ hg ha=>⟨⟨a,c,e,hc,zjL h hg ha⟩,k.grown hg ha.bs⟩
 one:=by
  rintro w p0 p1 p2 p3 x ⟨⟨a,c,rfl,_,_⟩,h⟩ u hu;exact EP
abbrev zaN(w:World)(a:Option Addr)(L:List zl):Prop:=ze8 zaG w a L
structure zai (w:World) (v:Value) (f:zl):Prop where
 ex:∃p0 p1 p2 p3,v=.agg #[p0,p1,p2,p3]/\zaG w p0 p1 p2 p3 f
theorem zai.below{w w':World}{v:Value}{f:zl}(h:zai w v f)(hb:Below w.heap.size w w'):zai w' v f:=by
 obtain⟨p0,p1,p2,p3,e,k⟩:=h.ex;exact⟨p0,p1,p2,p3,e,zaR.below k hb⟩
theorem zai.parts{w:World}{v:Value}{f:zl}(h:zai w v f):∃a c an ad cn cd,v=.agg #[.slice a f.ts.length c,.bool (zh f.c).neg,.slice an (zh f.c).num.length cn,.slice ad (zh f.c).den.length cd]/\f.ts.length<=c/\z8 w a f.ts/\
  (zh f.c).num.length<=cn/\(zh f.c).den.length<=cd/\zt w an (zh f.c).num/\zt w ad (zh f.c).den:=by
 obtain⟨p0,p1,p2,p3,rfl,⟨a,c,rfl,hc,ht⟩,hr⟩:=h.ex;obtain⟨an,ad,cn,cd,rfl,rfl,rfl,l1,l2,u1,u2⟩:=hr.ex;exact⟨a,c,an,ad,cn,cd,rfl,hc,ht,l1,l2,u1,u2⟩
def zaE(w:World)(f:zl)(e:Ending)(w':World):Prop:=∃v,e=.returned v/\zai w' v f/\Below w.heap.size w w'
abbrev apF{w:World}{ops:Array Oper}{rest:List Oper}{o:Oper}{a:Act}{Q:Exit->Act->World->Prop}(hgd:o.guard=none)(s x:Operand)(ho:o.op=.call {callee:=.builtin .append,args:=#[s,x],argTypes:=#[28,28]})(base:Nat):=zew (Pr:=Tryz.prog) (w:=w) (ops:=ops) (rest:=rest) (o:=o) (a:=a) (Q:=Q) (T:=53) zaR (.slice none 0 0) (.bool false) (.slice none 0 0) (.slice none 0 0) 80 X4 hgd s x 28 ho base Tryz.underlying28 Yc Ya
def scA(k:Rat)(f:zl):zl:=za2 k zbq f
def zce(b:Rat)(ws:List Rat)(off:Nat)(ix:List Int)(x:List zl):Nat->zl
 | 0=>zkq b
 | k+1=>if 0<=ix.getD k 0 then za2 1 (zce b ws off ix x k) (scA (ws.getD (off+k) 0) (x.getD (ix.getD k 0).toNat zbq))else zce b ws off ix x k
def zfJ(l:List zl):Nat->zl
 | 0=>zbq
 | k+1=>za2 1 (zfJ l k) (l.getD k zbq)
def zdW(l:List zl):zl:=scA (1/((l.length:Int):Rat)) (zfJ l l.length)
def zaY(nI:Nat)(U:List zl)(f:zl):List zl×zl:=(U++[f],za4 (nI+U.length))
def zP(nI:Nat):Nat->List zl->List zl->List zl×zl
 | 0,U,l=>(U,l.getD 0 zbq)
 | fuel+1,U,l=>
  if l.length<=1 then(U,l.getD 0 zbq)else
   ((zaY nI (zP nI fuel (zP nI fuel U (l.take ((l.length + 1) / 2))).1 (l.drop ((l.length + 1) / 2))).1
     (za2 (-1) (zP nI fuel (zP nI fuel U (l.take ((l.length+1)/2))).1 (l.drop ((l.length+1)/2))).2 (zP nI fuel U (l.take ((l.length+1)/2))).2)).1,
     za2 1 (zP nI fuel U (l.take ((l.length+1)/2))).2
      (zaY nI (zP nI fuel (zP nI fuel U (l.take ((l.length+1)/2))).1 (l.drop ((l.length+1)/2))).1
       (za2 (-1) (zP nI fuel (zP nI fuel U (l.take ((l.length+1)/2))).1 (l.drop ((l.length+1)/2))).2 (zP nI fuel U (l.take ((l.length+1)/2))).2)).2)
theorem zcT{nI fuel:Nat}{U l:List zl}(h:l.length=1):zP nI (fuel+1) U l=(U,l.getD 0 zbq):=by
 show(if l.length<=1 then(U,l.getD 0 zbq)else _)=_
 rw[Zq Ya]
theorem zcr{nI fuel:Nat}{U l U1 U2:List zl}{a b:zl}(h:2<=l.length)(h1:zP nI fuel U (l.take ((l.length+1)/2))=(U1,a))(h2:zP nI fuel U1 (l.drop ((l.length+1)/2))=(U2,b)):
  zP nI (fuel+1) U l=(U2++[za2 (-1) b a],za2 1 a (za4 (nI+U2.length))):=by
 rw[zP,Zh Ya,h1];simp only;rw[h2];rfl
theorem znM(nI:Nat)(U:List zl)(f:zl):∃V,(zaY nI U f).1=U++V:=⟨[f],rfl⟩
theorem zbO(nI:Nat):∀(fuel:Nat) (U l:List zl),∃V,(zP nI fuel U l).1=U++V
 | 0,U,l=>⟨[],by simp[zP]⟩
 | fuel+1,U,l=>by
  rw[zP]
  split
  ·exact⟨[],Yd⟩
  ·obtain⟨V1,h1⟩:=zbO nI fuel U (l.take ((l.length+1)/2));obtain⟨V2,h2⟩:=zbO nI fuel (zP nI fuel U (l.take ((l.length+1)/2))).1 (l.drop ((l.length+1)/2));simp only[zaY];rw[h2,h1,Z9,Z9];exact⟨_,rfl⟩
def zap(ix:List Int)(x:List zl):List zl:=ix.map fun i=>x.getD i.toNat zbq
def zB{β:Type}(f:List zl->β->List zl×zl):List β->List zl->List zl×List zl
 | [],U=>(U,[])
 | b::r,U=>((zB f r (f U b).1).1,(f U b).2::(zB f r (f U b).1).2)
theorem zhn{β:Type}(f:List zl->β->List zl×zl)(b:β):∀(l:List β) (U:List zl),
  zB f (l++[b]) U=((f (zB f l U).1 b).1,(zB f l U).2++[(f (zB f l U).1 b).2])
 | [],U=>rfl
 | a::r,U=>by
  show((zB f (r++[b]) (f U a).1).1,(f U a).2::(zB f (r++[b]) (f U a).1).2)=_
  rw[zhn f b r];rfl
theorem zaQ{β:Type}(f:List zl->β->List zl×zl):∀(l:List β) (U:List zl),(zB f l U).2.length=l.length
 | [],_=>rfl
 | a::r,U=>by
  show(zB f r (f U a).1).2.length+1=r.length+1
  rw[zaQ f r]
def zbh(C n:Nat)(win:List (List Int)):List (List Int):=(List.range C).flatMap fun ch=>(List.range win.length).map fun i=>zb9 (win.getD i []) (ch*n) n
def zam(nI:Nat)(U:List zl)(l:zae)(s:List Int)(x fr:List zl):List zl×List zl:=
 if l.kind=1 then(U,(List.range l.out.toNat).map fun r=>zce ((bq l).getD r 0) (zb9 (wq l) (r*x.length) x.length) 0 (zcq x.length) x x.length)
 else if l.kind=2 then(U,(List.range l.out.toNat).flatMap fun o=>(List.range (zA s l.kh l.kw l.stride l.pad).1.length).map fun i=>
  zce ((bq l).getD o 0) (zb9 (wq l) (o*((s.getD 0 0).toNat*l.kh.toNat*l.kw.toNat)) ((s.getD 0 0).toNat*l.kh.toNat*l.kw.toNat)) 0 ((zA s l.kh l.kw l.stride l.pad).1.getD i []) x ((zA s l.kh l.kw l.stride l.pad).1.getD i []).length)
 else if l.kind=3 then zB (fun U g=>zP nI g.length U (zap g x)) (zbh (s.getD 0 0).toNat (l.kh.toNat*l.kw.toNat) (zA s l.kh l.kw l.stride 0).1) U
 else if l.kind=4 then(U,(zbh (s.getD 0 0).toNat (l.kh.toNat*l.kw.toNat) (zA s l.kh l.kw l.stride 0).1).map fun g=>zdW (zap g x))
 else if l.kind=5 then zB (zaY nI) x U
 else if l.kind=7 then(U,(List.range x.length).map fun k=>za2 1 (x.getD k zbq) (fr.getD k zbq))
 else(U,x)
def zaF(x:List zl)(Y:List (List zl)):List zl:=Y.getLast?.getD x
def zbs(x:List zl)(Y:List (List zl))(f:Int):List zl:=if 0<=f then Y.getD f.toNat []else x
def zav(nI:Nat)(input:List Int)(x:List zl):List (List Int)->List (List zl)->List zl->List zae->List zl×List (List zl)
 | _,Y,U,[]=>(U,Y)
 | S,Y,U,l::r=>
  zav nI input x (S++[(zY input S l).1]) (Y++[(zam nI U l (zk input S) (zaF x Y) (zbs x Y l.frm)).2]) (zam nI U l (zk input S) (zaF x Y) (zbs x Y l.frm)).1 r
structure zdF where
 inputs:Nat
 units:List zl
 outs:List zl
def zei:zdF:=⟨0,[],[]⟩
def zfK:List zae->List (List Int)->Int
 | l::r,s::t=>(if l.kind=5 then zJ s else if l.kind=3 then(l.kh*l.kw-1)*zJ s else 0)+zfK r t
 | _,_=>0
def zu(n:Nat):List zl:=(List.range n).map za4
def zdt(m:zgt):zdF×Int:=
 if(zab m).2.2=0 then
  (if 256<zJ m.input∨1024<zfK m.layers (zab m).1∨256<zJ (zk m.input (zab m).1)then(zei,8)
   else(⟨(zJ m.input).toNat,(zav (zJ m.input).toNat m.input (zu (zJ m.input).toNat) [] [] [] m.layers).1,
    zaF (zu (zJ m.input).toNat) (zav (zJ m.input).toNat m.input (zu (zJ m.input).toNat) [] [] [] m.layers).2⟩,0))
 else(zei,(zab m).2.2)
def zht(m:zgt):Int×Int:=if(zab m).2.2=0 then(zfK m.layers (zab m).1,0)else(0,(zab m).2.2)
def za7(v:Nat)(q:Rat):List (Nat×Rat):=if q=0 then[]else[(v,q)]
def zef:List (Nat×Rat)->Nat->Rat->List (Nat×Rat)
 | [],v,q=>za7 v q
 | (u,p)::r,v,q=>if u=v then za7 v (p+q)++r else if v<u then za7 v q++(u,p)::r else(u,p)::zef r v q
theorem zfZ(v:Nat)(q:Rat)(u:Nat):zH (za7 v q) u=if v=u then q else 0:=by
 unfold za7
 split
 ·rename_i h;rw[h];split<;>rfl
 ·rfl
theorem zhX(v:Nat)(q:Rat):zbv (za7 v q) v:=by
 unfold za7
 split
 ·trivial
 ·rename_i h;exact⟨Za _,h,trivial⟩
theorem ze7(v:Nat)(q:Rat):zcH (za7 v q)<=v+1:=by
 unfold za7
 split
 ·exact Zs _
 ·show max (v+1) 0<=v+1;omega
theorem zf4:∀{l:List (Nat×Rat)} {lo:Nat} (v:Nat) (q:Rat),zbv l lo->zbv (zef l v q) (min lo v)
 | [],lo,v,q,_=>(zhX v q).mono Ya
 | (u,p)::r,lo,v,q,⟨h1,h2,h3⟩=>by
  show zbv (if u=v then za7 v (p+q)++r else if v<u then za7 v q++(u,p)::r else(u,p)::zef r v q) (min lo v)
  split
  ·rename_i h
   subst h;exact(zgj (zhX u (p+q)) h3 (ze7 u _) Ya).mono Ya
  ·split
   ·rename_i h
    exact(zgj (m:=(u,p)::r) (lo':=u) (zhX v q) ⟨Za _,h2,h3⟩ (Zl (ze7 v q) h) Ya).mono Ya
   ·refine⟨Ya,h2,?_⟩
    exact(zf4 v q h3).mono Ya
theorem zf9:∀{l:List (Nat×Rat)} {lo:Nat} (v:Nat) (q:Rat),zbv l lo->∀u,zH (zef l v q) u=zH l u+(if v=u then q else 0)
 | [],_,v,q,_,u=>by
  show zH (za7 v q) u=0+_
  rw[zfZ,Za0]
 | (w,p)::r,lo,v,q,⟨h1,h2,h3⟩,u=>by
  show zH (if w=v then za7 v (p+q)++r else if v<w then za7 v q++(w,p)::r else(w,p)::zef r v q) u=_
  by_cases e1:w=v
  ·subst e1;rw[Zq rfl,zeD h3 (ze7 w _),zfZ,zbg w p r (lo:=0) h3 u]
   split<;>grind
  ·rw[Zh e1]
   by_cases e2:v<w
   ·rw[Zq e2,zeD (m:=(w,p)::r) (lo:=w) ⟨Za _,h2,h3⟩ (Zl (ze7 v q) e2),zfZ]
    grind
   ·rw[Zh e2];have hc:zbv (zef r v q) (w+1):=(zf4 v q h3).mono Ya;rw[zbg w p (zef r v q) (lo:=0) hc u,zbg w p r (lo:=0) h3 u,zf9 v q h3 u]
    grind
def zqY(l:List (Nat×Rat))(v:Nat):Prop:=∀t∈l,t.1<v
theorem zf2:∀{a b:List (Nat×Rat)} {v:Nat} {q:Rat},zqY a v->zef (a++b) v q=a++zef b v q
 | [],_,_,_,_=>rfl
 | (u,p)::r,b,v,q,h=>by
  have hu:u<v:=h (u,p) Yd;show(if u=v then za7 v (p+q)++(r++b)else if v<u then za7 v q++(u,p)::(r++b)else(u,p)::zef (r++b) v q)=_
  rw[Zh Ya,Zh Ya,zf2 (fun t ht=>h t (by simp[ht]))];rfl
theorem zqd{a r:List (Nat×Rat)}{v:Nat}{p q:Rat}(h:zqY a v):zef (a++(v,p)::r) v q=(a++za7 v (p+q))++r:=by
 rw[zf2 h];show a++(if v=v then za7 v (p+q)++r else _)=_
 rw[Zq rfl,Z9]
theorem zqa{a r:List (Nat×Rat)}{u v:Nat}{p q:Rat}(h:zqY a v)(hu:v<u):zef (a++(u,p)::r) v q=(a++za7 v q)++(u,p)::r:=by
 rw[zf2 h];show a++(if u=v then _ else if v<u then za7 v q++(u,p)::r else _)=_
 rw[Zh Ya,Zq hu,Z9]
theorem zoG{a:List (Nat×Rat)}{v:Nat}{q:Rat}(h:zqY a v):zef a v q=a++za7 v q:=by
 have:=zf2 (b:=[]) (q:=q) h;rw[ZaX]at this;exact this
def zcX(f:List (Nat×Rat)):List (Nat×Rat)->List (Nat×Rat)
 | []=>f
 | (v,q)::r=>zcX (zef f v q) r
theorem ze5:∀(f g:List (Nat×Rat)) (v:Nat) (q:Rat),zcX f (g++[(v,q)])=zef (zcX f g) v q
 | _,[],_,_=>rfl
 | f,(u,p)::r,v,q=>ze5 (zef f u p) r v q
theorem zcV:∀{f g:List (Nat×Rat)},zbv f 0->zbv (zcX f g) 0
 | _,[],h=>h
 | f,(v,q)::r,h=>zcV (g:=r) ((zf4 v q h).mono (Zs _))
theorem ze9:∀{f g:List (Nat×Rat)} {lo:Nat},zbv f 0->zbv g lo->∀u,zH (zcX f g) u=zH f u+zH g u
 | f,[],_,_,_,u=>by show zH f u=zH f u+0;rw[Zbn]
 | f,(v,q)::r,lo,h,⟨g1,g2,g3⟩,u=>by
  show zH (zcX (zef f v q) r) u=_
  rw[ze9 ((zf4 v q h).mono (Zs _)) g3 u,zf9 v q h u,zbg v q r (lo:=0) g3 u]
  grind
theorem znB{f g:List (Nat×Rat)}(hf:zbv f 0)(hg:zbv g 0):zcX f g=zeQ 1 f g:=
 zfg (zcV hf) (fun v=>by rw[ze9 hf hg v,Zbm])
def zlP(k:Rat):List (Nat×Rat)->List (Nat×Rat)
 | []=>[]
 | (u,p)::r=>za7 u (p*k)++zlP k r
theorem zje(k:Rat)(u:Nat)(p:Rat):∀l:List (Nat×Rat),zlP k (l++[(u,p)])=zlP k l++za7 u (p*k)
 | []=>by show za7 u (p*k)++[]=[]++za7 u (p*k);rw[ZaX,ZaP]
 | (w,q)::r=>by
  show za7 w (q*k)++zlP k (r++[(u,p)])=(za7 w (q*k)++zlP k r)++za7 u (p*k)
  rw[zje k u p r,Z9]
theorem zhP(k:Rat):∀{l:List (Nat×Rat)} {lo:Nat},zbv l lo->zbv (zlP k l) lo
 | [],_,_=>trivial
 | (u,p)::r,lo,⟨h1,h2,h3⟩=>(zgj (zhX u (p*k)) (zhP k h3) (ze7 u _) Ya).mono h1
theorem ziw(k:Rat):∀{l:List (Nat×Rat)} {lo:Nat},zbv l lo->∀v,zH (zlP k l) v=k*zH l v
 | [],_,_,v=>by show(0:Rat)=k*0;rw[Rat.mul_zero]
 | (u,p)::r,lo,⟨h1,h2,h3⟩,v=>by
  show zH (za7 u (p*k)++zlP k r) v=_
  rw[zeD (zhP k h3) (ze7 u _),zfZ,ziw k h3 v,zbg u p r (lo:=0) h3 v]
  split<;>grind
theorem zoV{k:Rat}{l:List (Nat×Rat)}(h:zbv l 0):zlP k l=zeQ k [] l:=
 zfg (zhP k h) (fun v=>by rw[ziw k h v];show _=0+_;rw[Za0])
theorem zqK{f g:List (Nat×Rat)}:zeQ 1 f (zeQ (-1) [] g)=zeQ (-1) f g:=
 zfg (zdk _ _ _) (fun v=>by rw[zat,zat];show _+1*(0+ -1*_)=_;grind)
theorem zpf(f g:zl):za2 1 f (scA (-1) g)=za2 (-1) f g:=by
 unfold scA za2 zbq;simp only;rw[zqK]
 congr 1
 grind
structure zbo (w:World) (g:Nat) (p0 p1 p2 p3:Value):Prop where
 c0:w.cell? ⟨g,0,none⟩=some p0
 c1:w.cell? ⟨g,1,none⟩=some p1
 c2:w.cell? ⟨g,2,none⟩=some p2
 c3:w.cell? ⟨g,3,none⟩=some p3
 free:∀o,w.frozen? ⟨g,o,none⟩=false
 lt:g<w.heap.size
inductive Sq where
 | val (v:Value)
 | rat (q:Rat)
 | trm (v:Nat) (q:Rat)
 | one (v:Nat) (q:Rat)
 | frm (f:zl)
 | onf (f:zl)
 | new4 (B:Nat)
 | num (q:Rat)
def GQ(L:List Sq)(i:Nat)(v:Value)(w:World):Prop:=
 match L[i]? with
 | some (.val x)=>v=x
 | some (.rat q)=>RatV w v (zh q)
 | some (.trm u q)=>∃p1 p2 p3,v=.agg #[.int .i64 (u:Int),p1,p2,p3]/\zbA w p1 p2 p3 q
 | some (.one u q)=>zdp zd9 w v (u,q)
 | some (.frm f)=>zai w v f
 | some (.onf f)=>zdp zaG w v f
 | some (.new4 B)=>∃b,v=.pointer (some ⟨b,0,none⟩)/\B<=b/\zbo w b (.slice none 0 0) (.bool false) (.slice none 0 0) (.slice none 0 0)/\zV w b
 | some (.num q)=>∃p1 p2 p3,v=.agg #[.slice none 0 0,p1,p2,p3]/\zbA w p1 p2 p3 q
 | none=>True
theorem zbo.belowB{w w':World}{g B:Nat}{p0 p1 p2 p3:Value}(h:zbo w g p0 p1 p2 p3)(hb:Below B w w')(hg:g<B):zbo w' g p0 p1 p2 p3:=
 ⟨(hb.cell (p:=⟨g,0,none⟩) hg).trans h.c0,(hb.cell (p:=⟨g,1,none⟩) hg).trans h.c1,(hb.cell (p:=⟨g,2,none⟩) hg).trans h.c2,(hb.cell (p:=⟨g,3,none⟩) hg).trans h.c3,fun o=>(hb.frozen (p:=⟨g,o,none⟩) hg).trans (h.free o),Zd h.lt hb.size⟩
theorem zbo.below{w w':World}{g:Nat}{p0 p1 p2 p3:Value}(h:zbo w g p0 p1 p2 p3)(hb:Below w.heap.size w w'):zbo w' g p0 p1 p2 p3:=h.belowB hb h.lt
theorem zaV{L:List Sq}{i:Nat}{v:Value}{w w':World}(h:GQ L i v w)(hb:Below w.heap.size w w'):GQ L i v w':=by
 unfold GQ at h⊢
 split
 ·rename_i x hx;rw[hx]at h;exact h
 ·rename_i x hx;rw[hx]at h;exact RatV.below h hb
 ·rename_i x y hx;rw[hx]at h;obtain⟨p1,p2,p3,e,k⟩:=h;exact⟨p1,p2,p3,e,k.below hb⟩
 ·rename_i x y hx;rw[hx]at h;exact zdp.below h zbI hb
 ·rename_i x hx;rw[hx]at h;exact zai.below h hb
 ·rename_i x hx;rw[hx]at h;exact zdp.below h zaR hb
 ·exact Ig
 ·rename_i x hx;rw[hx]at h;obtain⟨p1,p2,p3,e,k⟩:=h;exact⟨p1,p2,p3,e,k.below hb⟩
 ·trivial
theorem zbo.alloc(w:World)(p0 p1 p2 p3:Value)(T:Nat):zbo (w.alloc (.cells #[p0,p1,p2,p3] T)) w.heap.size p0 p1 p2 p3:=by
 refine⟨?_,?_,?_,?_,fun o=>ZaZ _ _ _ _,Yd⟩<;>(rw[World.cell?_alloc_at _ _ _ _ rfl];rfl)
theorem zbo.far{w:World}{g h:Nat}{p0 p1 p2 p3:Value}(hb:zbo w g p0 p1 p2 p3)(hne:h≠g)(o:Nat)(v:Value):zbo (w.setCell ⟨h,o,none⟩ v) g p0 p1 p2 p3:=
 ⟨(zfu hne).trans hb.c0,(zfu hne).trans hb.c1,(zfu hne).trans hb.c2,(zfu hne).trans hb.c3,fun i=>by simp[Zam,hb.free],by simpa using hb.lt⟩
theorem zbo.set0{w:World}{g:Nat}{p0 p1 p2 p3:Value}(h:zbo w g p0 p1 p2 p3)(v:Value):zbo (w.setCell ⟨g,0,none⟩ v) g v p1 p2 p3:=by
 refine⟨ZU _ _ _ h.c0,?_,?_,?_,fun i=>by simp[Zam,h.free],Jr⟩
 ·exact(ZC _ _ _ _ Yr).trans h.c1
 ·exact(ZC _ _ _ _ Yr).trans h.c2
 ·exact(ZC _ _ _ _ Yr).trans h.c3
theorem zbo.grown{w w':World}{g:Nat}{p0 p1 p2 p3 v:Value}(h:zbo w g p0 p1 p2 p3)(hg:w.grownBy w' v.ownBlock)(hne:v.ownBlock≠some g):zbo w' g p0 p1 p2 p3:=by
 have hb:∀o,w'.cell? ⟨g,o,none⟩=w.cell? ⟨g,o,none⟩:=fun o=>ZR (hg.block g h.lt (fun e=>hne e.symm))
 have hf:∀o,w'.frozen? ⟨g,o,none⟩=w.frozen? ⟨g,o,none⟩:=fun o=>ZaI (hg.block g h.lt (fun e=>hne e.symm))
 exact⟨(hb 0).trans h.c0,(hb 1).trans h.c1,(hb 2).trans h.c2,(hb 3).trans h.c3,fun o=>(hf o).trans (h.free o),Zd h.lt hg.size⟩
theorem zV.grown{w w':World}{g:Nat}{v:Value}(h:zV w g)(hlt:g<w.heap.size)(hg:w.grownBy w' v.ownBlock)(hne:v.ownBlock≠some g):zV w' g:=
 fun o x e=>h o x ((ZR (hg.block g hlt (fun e=>hne e.symm))).symm.trans e)
theorem zbA.setCell{w:World}{p1 p2 p3:Value}{q:Rat}(h:zbA w p1 p2 p3 q){g:Nat}(hg:zV w g)(o:Nat)(v:Value):zbA (w.setCell ⟨g,o,none⟩ v) p1 p2 p3 q:=by
 obtain⟨an,ad,cn,cd,e1,e2,e3,l1,l2,u1,u2⟩:=h.ex;exact⟨an,ad,cn,cd,e1,e2,e3,l1,l2,u1.setCell hg _ _,u2.setCell hg _ _⟩
theorem zM{T:TypeId}{w:World}{base:Nat}{v:Value}{L:List (Nat×Rat)}(h:zdC zd9 noI T w base v L){g:Nat}(hg:zV w g)(hne:v.ownBlock≠some g)(o:Nat)(u:Value):zdC zd9 noI T (w.setCell ⟨g,o,none⟩ u) base v L:=by
 obtain⟨xs,ho,he⟩:=h.ex
 refine⟨⟨xs,ownsRow_setCell_other ho hne u,fun j x hj=>?_⟩,fun k hk i z e=>?_⟩
 ·obtain⟨p0,p1,p2,p3,h0,h1,h2,h3,e0,hr⟩:=he j x hj;exact⟨p0,p1,p2,p3,h0,h1,h2,h3,e0,hr.setCell hg o u⟩
 ·have hgk:g≠k:=fun e=>hne (by rw[e];exact hk)
  exact h.al k hk i z ((zfu hgk).symm.trans e)
structure zpE (w W:World) (base:Nat) (s:Value) (L:List (Nat×Rat)) (p1 p2 p3 q1 q2 q3:Value) (q:Rat):Prop where
 fb:zbo W w.heap.size s p1 p2 p3
 cb:zbn W (w.heap.size+1) q1 q2 q3
 rb:zbo W (w.heap.size+1+1) (.slice none 0 0) (.bool false) (.slice none 0 0) (.slice none 0 0)
 nf:zV W w.heap.size
 nr:zV W (w.heap.size+1+1)
 own:zdC zd9 noI 84 W base s L
 far:s.ownBlock≠some w.heap.size/\s.ownBlock≠some (w.heap.size+1+1)
 rc:zbA W q1 q2 q3 q
 bl:Below base w W
theorem zpE.below{w W W':World}{base:Nat}{s:Value}{L:List (Nat×Rat)}{p1 p2 p3 q1 q2 q3:Value}{q:Rat}(h:zpE w W base s L p1 p2 p3 q1 q2 q3 q)(hb:Below W.heap.size W W')(hbase:base<=W.heap.size):zpE w W' base s L p1 p2 p3 q1 q2 q3 q:=
 ⟨h.fb.below hb,h.cb.below hb,h.rb.below hb,h.nf.below hb h.fb.lt,h.nr.below hb h.rb.lt,h.own.below zbI hb,h.far,h.rc.below hb,h.bl.trans (hb.mono hbase)⟩
structure zqG (w W:World) (base:Nat) (s s':Value) (L:List (Nat×Rat)) (p1 p2 p3:Value):Prop where
 fb:zbo W w.heap.size s p1 p2 p3
 rb:zbo W (w.heap.size+1+1) (.slice none 0 0) (.bool false) (.slice none 0 0) (.slice none 0 0)
 nf:zV W w.heap.size
 nr:zV W (w.heap.size+1+1)
 own:zdC zd9 noI 84 W base s' L
 far:s'.ownBlock≠some w.heap.size/\s'.ownBlock≠some (w.heap.size+1+1)
 bl:Below base w W
theorem zpE.done{w W:World}{base:Nat}{s:Value}{L:List (Nat×Rat)}{p1 p2 p3 q1 q2 q3:Value}{q:Rat}(h:zpE w W base s L p1 p2 p3 q1 q2 q3 q):zqG w W base s s L p1 p2 p3:=⟨h.fb,h.rb,h.nf,h.nr,h.own,h.far,h.bl⟩
theorem zpE.app{w W W':World}{base:Nat}{s s':Value}{L L':List (Nat×Rat)}{p1 p2 p3 q1 q2 q3:Value}{q:Rat}(h:zpE w W base s L p1 p2 p3 q1 q2 q3 q)(ho:zdC zd9 noI 84 W' base s' L')(hg:W.grownBy W' s.ownBlock)(hb:Below base W W')(hn:ziB W s s'):
  zqG w W' base s s' L' p1 p2 p3:=by
 refine⟨h.fb.grown hg h.far.1,h.rb.grown hg h.far.2,h.nf.grown h.fb.lt hg h.far.1,h.nr.grown h.rb.lt hg h.far.2,ho,?_,h.bl.trans hb⟩
 rcases hn with e|⟨k,e,hk⟩
 ·rw[e];exact h.far
 ·have l1:=h.fb.lt;have l2:=h.rb.lt
  constructor
  ·intro e2;rw[e]at e2;cases e2;omega
  ·intro e2;rw[e]at e2;cases e2;omega
theorem zqG.set{w W:World}{base:Nat}{s s':Value}{L:List (Nat×Rat)}{p1 p2 p3:Value}(h:zqG w W base s s' L p1 p2 p3)(hs:∀x,s'≠.int .u32 x)(hbase:base<=w.heap.size):zqG w (W.setCell ⟨w.heap.size,0,none⟩ s') base s' s' L p1 p2 p3:=
 ⟨h.fb.set0 s',h.rb.far Ya _ _,h.nf.setCell _ _ hs,h.nr.far Ya _ _,zM h.own h.nf h.far.1 _ _,h.far,h.bl.setCell (p:=⟨w.heap.size,0,none⟩) hbase _⟩
def zlZ(w:World)(base:Nat)(L:List (Nat×Rat))(b0:Bool)(an:Option Addr)(nn cn:Nat)(ad:Option Addr)(nd cd:Nat)(e:Ending)(w':World):Prop:=
 ∃a c,e=.returned (.agg #[.slice a L.length c,.bool b0,.slice an nn cn,.slice ad nd cd])/\zdC zd9 noI 84 w' base (.slice a L.length c) L/\Below base w w'
theorem zqG.post{w W:World}{base:Nat}{a:Option Addr}{n c:Nat}{L:List (Nat×Rat)}{b0:Bool}{an ad:Option Addr}{nn cn nd cd:Nat}{s:Value}(h:zqG w W base s (.slice a n c) L (.bool b0) (.slice an nn cn) (.slice ad nd cd))(hn:L.length=n)(hbase:base<=w.heap.size):
  zlZ w base L b0 an nn cn ad nd cd (.returned (.agg #[.slice a n c,.bool b0,.slice an nn cn,.slice ad nd cd])) ((((W.setCell ⟨w.heap.size+1+1,0,none⟩ (.slice a n c)).setCell ⟨w.heap.size+1+1,1,none⟩ (.bool b0)).setCell ⟨w.heap.size+1+1,2,none⟩ (.slice an nn cn)).setCell ⟨w.heap.size+1+1,3,none⟩ (.slice ad nd cd)):=by
 subst hn;have n1:=h.nr.setCell 0 (.slice a L.length c) Yd;have n2:=n1.setCell 1 (.bool b0) Yd;have n3:=n2.setCell 2 (.slice an nn cn) Yd;have hg:base<=w.heap.size+1+1:=Ya;exact⟨a,c,rfl,zM (zM (zM (zM h.own h.nr h.far.2 _ _) n1 h.far.2 _ _) n2 h.far.2 _ _) n3 h.far.2 _ _,
  (((h.bl.setCell (p:=⟨w.heap.size+1+1,0,none⟩) hg _).setCell (p:=⟨w.heap.size+1+1,1,none⟩) hg _).setCell (p:=⟨w.heap.size+1+1,2,none⟩) hg _).setCell (p:=⟨w.heap.size+1+1,3,none⟩) hg _⟩
theorem ziJ{q:Rat}:zcD (zh q).neg (zo (zh q).num)=0 ↔ q=0:=by
 have h:zo (zh q).num=q.num.natAbs:=by
  show zo (ze q.num.natAbs)=_
  exact zi _
 unfold zcD;rw[h]
 constructor
 ·intro e
  by_cases hz:q.num.natAbs=0
  ·exact Rat.num_eq_zero.1 Ya
  ·rw[Zh hz]at e
   split at e<;>cases e
 ·intro e;rw[Zq (by rw[e];rfl)]
theorem zra{w:World}{base n v:Nat}{a:Option Addr}{c:Nat}{b0:Bool}{an ad:Option Addr}{nn cn nd cd:Nat}{vq:Value}{L:List (Nat×Rat)}{q:Rat}(hown:zdC zd9 noI 84 w base (.slice a n c) L)(hn:L.length=n)(hbase:base<=w.heap.size)
 (hq:RatV w vq (zh q))(hql:zaf (zh q) 1048576)(hnb:n<=1000000):
  Calls Tryz.prog 135 #[.agg #[.slice a n c,.bool b0,.slice an nn cn,.slice ad nd cd],.int .i64 (v:Int),vq] w (zlZ w base (zca L v q) b0 an nn cn ad nd cd):=by
 obtain⟨qn,qd,qcn,qcd,rfl,g2,g3,g4,g5⟩:=hq.ex;have hS0:zpE w (((w.alloc (.cells #[.slice a n c,.bool b0,.slice an nn cn,.slice ad nd cd] 53)).alloc (.cells #[.bool (zh q).neg,.slice qn (zh q).num.length qcn,.slice qd (zh q).den.length qcd] 51)).alloc (.cells #[.slice none 0 0,.bool false,.slice none 0 0,.slice none 0 0] 53))
   base (.slice a n c) L (.bool b0) (.slice an nn cn) (.slice ad nd cd) (.bool (zh q).neg) (.slice qn (zh q).num.length qcn) (.slice qd (zh q).den.length qcd) q:=by
  have k1:=zbo.alloc w (.slice a n c) (.bool b0) (.slice an nn cn) (.slice ad nd cd) 53;have m1:=zV.alloc w #[.slice a n c,.bool b0,.slice an nn cn,.slice ad nd cd] 53 Yd;have b1:=blA w (.cells #[.slice a n c,.bool b0,.slice an nn cn,.slice ad nd cd] 53);have s1:(w.alloc (.cells #[.slice a n c,.bool b0,.slice an nn cn,.slice ad nd cd] 53)).heap.size=w.heap.size+1:=Yd;generalize w.alloc (.cells #[.slice a n c,.bool b0,.slice an nn cn,.slice ad nd cd] 53)=W1 at *;have k2:=zbn.alloc W1 (.bool (zh q).neg) (.slice qn (zh q).num.length qcn) (.slice qd (zh q).den.length qcd) 51;have b2:=blA W1 (.cells #[.bool (zh q).neg,.slice qn (zh q).num.length qcn,.slice qd (zh q).den.length qcd] 51);have s2:(W1.alloc (.cells #[.bool (zh q).neg,.slice qn (zh q).num.length qcn,.slice qd (zh q).den.length qcd] 51)).heap.size=w.heap.size+1+1:=Yj;generalize W1.alloc (.cells #[.bool (zh q).neg,.slice qn (zh q).num.length qcn,.slice qd (zh q).den.length qcd] 51)=W2 at *;have k3:=zbo.alloc W2 (.slice none 0 0) (.bool false) (.slice none 0 0) (.slice none 0 0) 53;have m3:=zV.alloc W2 #[.slice none 0 0,.bool false,.slice none 0 0,.slice none 0 0] 53 Yd;have b3:=blA W2 (.cells #[.slice none 0 0,.bool false,.slice none 0 0,.slice none 0 0] 53);generalize W2.alloc (.cells #[.slice none 0 0,.bool false,.slice none 0 0,.slice none 0 0] 53)=W3 at *;rw[s1]at k2;rw[s2]at k3 m3;have b23:=b2.trans (b3.mono b2.size);have b13:=b1.trans (b23.mono b1.size)
  refine⟨k1.below b23,k2.below b3,k3,m1.below b23 k1.lt,m3,hown.below zbI b13,⟨fun e=>?_,fun e=>?_⟩,zbA.below ⟨qn,qd,qcn,qcd,rfl,rfl,rfl,g2,g3,g4,g5⟩ b13,b13.mono hbase⟩
  ·have:=(hown.lt e).2;omega
  ·have:=(hown.lt e).2;omega
 obtain⟨HS0,HN,HQl⟩:=hd3 hS0 hn hql;generalize hLp:zca L v q=L';have HLp:=hid hLp;clear hS0 hown hq g4 g5 hLp
 go_enter Tryz.func135,Tryz.ntmps135
 go_upto_region 1 with fail
 generalize((w.alloc (.cells #[.slice a n c,.bool b0,.slice an nn cn,.slice ad nd cd] 53)).alloc (.cells #[.bool (zh q).neg,.slice qn (zh q).num.length qcn,.slice qd (zh q).den.length qcd] 51)).alloc (.cells #[.slice none 0 0,.bool false,.slice none 0 0,.slice none 0 0] 53)=W at *;obtain⟨y0,y1,y2,yf,ylt⟩:=HS0.out.cb;have hle:=HQl.out.num;have HSg:=hid (zsu HS0.out.rc.val Ya)
 go_wp2_with fail
 refine HSg.out.mono ?_
 rintro e w1 ⟨rfl,hb1⟩;have hb01:base<=W.heap.size:=Zl hbase HS0.out.bl.size;have HS1:=hid (HS0.out.below hb1 hb01);clear hb1 HSg HS0 y0 y1 y2 yf ylt
 by_cases hz:q=0
 ·have hs:zcD (zh q).neg (zo (zh q).num)=0:=ziJ.2 hz;rw[hs];obtain rfl:L'=L:=by rw[<- HLp.out];unfold zca;rw[Zq hz]
  have HP:=hid HS1.out.done;obtain⟨x0,x1,x2,x3,xf,xlt⟩:=HP.out.fb;obtain⟨r0,r1,r2,r3,rf,rlt⟩:=HP.out.rb;clear hz hs;go_wp2;exact Zr (v:=.agg #[.slice a n c,.bool b0,.slice an nn cn,.slice ad nd cd]) Ks rfl (HP.out.post HN.out hbase)
 ·have hs:(zcD (zh q).neg (zo (zh q).num) != 0)=true:=by rw[bne_iff_ne];exact fun e=>hz (ziJ.1 e)
  obtain rfl:L'=L++[(v,q)]:=by rw[<- HLp.out];unfold zca;rw[Zh hz]
  have HCn:Hid (∀W',Below w1.heap.size w1 W'->Calls Tryz.prog 121 #[.agg #[.bool (zh q).neg,.slice qn (zh q).num.length qcn,.slice qd (zh q).den.length qcd]] W' (zey W' (zh q))):=fun W' hb=>by
   have h:=zpD (HS1.out.rc.val.below hb) (by have:=HQl.out.num;omega) (by have:=HQl.out.den;omega);rw[zcz,zax]at h;exact h
  have hlt1:base<=w1.heap.size:=Zl hbase HS1.out.bl.size;clear hz hle
  go_upto_region 2 with fail
  clear hs
  refine zv 7 Yc Yc Yc Yc Yb (zcm w1.heap.size w1) (fun w w'=>Below w.heap.size w w') (GQ [.val (.pointer (some ⟨w.heap.size,0,none⟩)),.val (.slice a n c),.val (.int .i64 (v:Int)),.val (.agg #[.bool (zh q).neg,.slice qn (zh q).num.length qcn,.slice qd (zh q).den.length qcd]),.rat q,.trm v q,.one v q]) (fun i v w w' h hb=>zaV h hb) (zcm.start (Za _)) ?_ ?_
  ·intro ops;simp only[Zm,Zv,zbM]
   refine⟨?v0,?v1,?v2,?v3,?_,?_,?_,trivial⟩
   all_goals (intro g W hR hL;have hB:=hR.base;have HS2:=hid (HS1.out.below hR.be hlt1);obtain⟨x0,x1,x2,x3,xf,xlt⟩:=HS2.out.fb;obtain⟨y0,y1,y2,yf,ylt⟩:=HS2.out.cb;simp only[zbd,Region.binds,Zj,Ze,Zi,GQ,Zc,Zb]at hL;simp[zg,Act.put])
   case v0|v1|v2|v3=>
    exact Ut
   ·try simp only[hL]
    clear hL;have HR:=hid hR;clear hR;have HCt:=hid (HCn.out W HR.out.be);exact Ul
   ·generalize g 2=y2 at hL⊢;generalize g 4=y4 at hL⊢;obtain⟨rfl,H4,_⟩:=hL;obtain⟨K4,HR⟩:=hd2 H4 hR;clear hR H4;obtain⟨an',ad',cn',cd',rfl,l1,l2,u1,u2⟩:=K4.out.ex;have HRC:=hid (show zbA W _ _ _ _ from⟨an',ad',cn',cd',rfl,rfl,rfl,l1,l2,u1,u2⟩);clear u1 u2 K4;go_wp2;exact⟨_,rfl,HR.out,Zg _ _,_,_,_,rfl,HRC.out⟩
   ·generalize g 5=y5 at hL⊢;obtain⟨H5,_⟩:=hL;obtain⟨K5,HR⟩:=hd2 H5 hR;clear hR H5;obtain⟨r1,r2,r3,rfl,hrc⟩:=K5.out;obtain⟨HOne,HBa⟩:=hd2 (zdp.alloc zbI (show zd9 W _ r1 r2 r3 (v,q)from⟨rfl,hrc⟩) 84) ((Zg W.heap.size W).alloc (Za _) (.cells #[.int .i64 ((v:Nat):Int),r1,r2,r3] 84));obtain⟨an',ad',cn',cd',rfl,rfl,rfl,l1,l2,u1,u2⟩:=hrc.ex;clear hrc u1 u2 K5;go_wp2;exact⟨⟨Zl HR.out.base HBa.out.size,HR.out.be.trans (HBa.out.mono HR.out.base)⟩,HBa.out,HOne.out⟩
  ·intro ops g W hR hL;have hB:=hR.base;have J1:=hL.1.1.1.1.1.2;have J6:=hL.2;simp only[GQ,Zc,Zb]at J1 J6;have HS2:=hid (HS1.out.below hR.be hlt1);obtain⟨x0,x1,x2,x3,xf,xlt⟩:=HS2.out.fb;obtain⟨y0,y1,y2,yf,ylt⟩:=HS2.out.cb;clear hL;simp only[Zm,Zv,ZD,ZN];simp[zg,Act.put];generalize g 1=y1 at J1⊢;obtain rfl:=J1;generalize g 6=y6 at J6⊢;have HR:=hid hR;clear hR;have HJ:=hid J6;clear J6 x0 x1 x2 x3 xf xlt y0 y1 y2 yf ylt
   go_upto_region 3 with(at_builtin;refine zew (T:=84) zbI (.int .i64 0) (.bool false) (.slice none 0 0) (.slice none 0 0) 64 Yp rfl (.tmp 11) (.tmp 16) 47 rfl base Tryz.underlying47 Yc Ya (.slice a n c) n L HN.out rfl HS2.out.own y6 (v,q) HJ.out rfl Ya (Zl hbase HS2.out.bl.size) ?_;intro b3 k3 w3 hown hk3 hg hbe hnx;have HP:=hid (HS2.out.app hown hg hbe hnx);obtain⟨x0,x1,x2,x3,xf,xlt⟩:=HP.out.fb;clear hown hg hbe hnx)
   have HQ:=hid (HP.out.set Yd hbase);generalize w3.setCell ⟨w.heap.size,0,none⟩ (.slice b3 (n+1) k3)=w4 at *;clear HP x0 x1 x2 x3 xf xlt;obtain⟨x0,x1,x2,x3,xf,xlt⟩:=HQ.out.fb;obtain⟨r0,r1,r2,r3,rf,rlt⟩:=HQ.out.rb;go_wp2;exact Zr (v:=.agg #[.slice b3 (n+1) k3,.bool b0,.slice an nn cn,.slice ad nd cd]) Ks rfl (HQ.out.post (by rw[ZB,HN.out];rfl) hbase)
