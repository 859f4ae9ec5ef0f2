/-
  Contracts: LinL, LinE, LinF, LinG, LinH, LinI, LinM, LinN, LinO, LinP, LinR, LinQ.
-/
import Derived.Test.YtfgmmghmmfmdgaaGreatO20
import Derived.Test.YtfgmmghmmfmdgaaGreatO0
set_option linter.all false
set_option maxRecDepth 100000
set_option maxHeartbeats 3200000
namespace Go.Proofs.YtfgmmghmmfmdgaaGreat
open Go.RowKit
open Go.Lib (hid)
variable {P:Prop} {w W W' w' wr w6:World} {g0 g1 g2 g3 k1 k2 k3 p1 p2 p3 s r1 r2 r3 p0 q0 q1 q2 q3 vf vg:Value} {a an ad aA aB ao a5 a':Option Addr} {l:List Nat} {n base b g B nn cn nd cd u nA cA nB cB no co lo n5 c5 v m C D D' N N' gL:Nat} {q p k z:Rat} {out A A' B':List (Nat×Rat)} {b0:Bool} {f:zl} {x U V L:List zl} {input:List Int} {S:List (List Int)} {G:zd6} {F:Nat->Prop} {ws:List Rat}
theorem OA(h:P:=by
 try simp only[hL]
 clear hL;have HR:=hid hR;clear hR;have HCt:=hid (HM10.out X HR.out.be);exact Um
):P:=h
theorem IV(h:P:=by
 intro ops;simp only[Zo,Zw,zbR]
 refine⟨?v0,?v1,?v2,?v3,?v4,?v5,?v6,?v7,?v8,?v9,?_,trivial⟩
 all_goals (intro y X hR hL;have hB:=hR.base;have HSW:=hid (HS3.out.below hR.be);obtain⟨x0,x1,x2,x3,xf,xlt⟩:=HSW.out.ob;have hwW:=htr hw3 hR.be;have dB0:=(hwW.out.cell (p:=⟨bB,oB,none⟩) hbB).trans fB0;have dB1:=(hwW.out.cell (p:=⟨bB,oB+1,none⟩) hbB).trans fB1;have dB2:=(hwW.out.cell (p:=⟨bB,oB+2,none⟩) hbB).trans fB2;have dB3:=(hwW.out.cell (p:=⟨bB,oB+3,none⟩) hbB).trans fB3;have hbB3:=Zb hbB hwW.out.size;obtain⟨k0,k1,k2,_,kt⟩:=(HW.out.below HSW.out.bl).cb;simp only[zdt,Region.binds,ZB,Zn,Zx,GQ,Zf,Zc]at hL;simp[ze,Act.put])
 case v0|v1|v2|v3|v4|v5|v6|v7|v8|v9=>
  exact Ut
 ·exact OA
):P:=h
theorem IX(h:P:=by
 intro ops;simp only[Zo,Zw,zbR]
 refine⟨?v0,?v1,?_,?_,trivial⟩
 all_goals (intro y X hR hL;have hB:=hR.base;have HT2:=hid (HT.out.below hR.be);obtain⟨f0,f1,f2,f3,_,ft⟩:=HT2.out.fb;obtain⟨g0,g1,g2,g3,_,gt⟩:=HT2.out.gb;simp only[zdt,Region.binds,ZB,Zn,Zx,GQ,Zf,Zc]at hL;simp[ze,Act.put])
 case v0|v1=>
  exact Ut
 ·try simp only[hL]
  clear hL;have HR:=hid hR;clear hR;have HCt:=hid (HOf.out X);exact Um
 ·generalize y 0=y0 at hL⊢;generalize y 1=y1 at hL⊢;generalize y 2=y2 at hL⊢;obtain⟨rfl,rfl,H2,_,_⟩:=hL;obtain⟨K2,HR⟩:=hd2 H2 hR;clear hR H2;have HCt:=hid (HMg.out X HR.out.be _ K2.out);exact Um
):P:=h
theorem IY(h:P:=by
 intro ops;simp only[Zo,Zw,zbR]
 refine⟨?v0,?v1,?v2,?v3,?v4,?v5,?v6,?v7,?v8,trivial⟩
 all_goals (intro y X hR hL;have hB:=hR.base;have HSW:=hid (HS3.out.below hR.be);obtain⟨x0,x1,x2,x3,xf,xlt⟩:=HSW.out.ob;have hwW:=htr hw3 hR.be;have dA0:=(hwW.out.cell (p:=⟨bA,oA,none⟩) hbA).trans fA0;have dA1:=(hwW.out.cell (p:=⟨bA,oA+1,none⟩) hbA).trans fA1;have dA2:=(hwW.out.cell (p:=⟨bA,oA+2,none⟩) hbA).trans fA2;have dA3:=(hwW.out.cell (p:=⟨bA,oA+3,none⟩) hbA).trans fA3;have hbA3:=Zb hbA hwW.out.size;simp only[zdt,Region.binds,ZB,Zn,Zx,GQ,Zf,Zc]at hL;simp[ze,Act.put])
 case v0|v1|v2|v3|v4|v5|v6|v7|v8=>
  exact Ut
):P:=h
theorem Oh(h:P:=by
 try simp only[hL]
 clear hL;have HR:=hid hR;clear hR;have HCt:=hid (HMul.out X HR.out.be);exact Um
):P:=h
theorem Uq(h:P:=by
 go_wp2
 first|refine⟨_,rfl,?_⟩|refine⟨rfl,_,?_⟩|skip
 exact HJ.out.here (fun i v w w' h hb=>zdf h hb) rfl
):P:=h
theorem Tf(h:P:=by have hb2:=hw3.out.trans (hb.mono hw3.out.size);have h:=zua (HVB.out.below hb2) (HKc.out.below hb2) (HLe.out.lgt _ (HI.out.mB _ Zal)) HLe.out.lk;rw[zH,zH]at h;exact h):P:=h
theorem T9(h:P:=by rw[zH,zH]at h;exact h):P:=h
theorem TU(h:P:=by
 obtain⟨hl,hc⟩:=h
 cases T with
 | nil=>simp at hl
 | cons s T'=>
  refine⟨s,T',rfl,by simpa using hc 0 s l rfl rfl,by simpa using hl,fun j s' l' h1 h2=>?_⟩
  have:=hc (j+1) s' l' VP (by simpa using h2)
  simpa using this
):P:=h
theorem El(h:P:=by rw[HHpr.out];refine zqE (hyv'.out.below hbw2) (k:=ws.getD (p0+k) 0) Xb (HBw.out.at hW0 _) Hyb.out (HPy.out.le (Za _) ?_) hN;rw[Zac];omega):P:=h
theorem Em(h:P:=by
 go_wp2
 first|refine⟨_,rfl,?_⟩|skip
 exact⟨⟨Zi HR.out.base HBa.out.size,HR.out.be.trans (HBa.out.mono HR.out.base)⟩,HBa.out,_,rfl,HR.out.base,HK4.out,HN4.out⟩
):P:=h
theorem E5(h:P:=by
 go_wp2;go_roundw
 case rel=>exact⟨k+1,hlk,Yg,by rw[<- HS1.out];exact HStep.out⟩
 case measure=>simp[intOf];omega
):P:=h
theorem ET(h:P:=by have hb2:=HT.out.bl.trans (hb.mono HT.out.bl.size);exact zqp (HF.out.below hb2) (HG.out.below hb2) hz HcF.out HcG.out HLe.out):P:=h
theorem EV(h:P:=by obtain⟨a,c,e,k⟩:=h;exact⟨a,c,e,k.below hb⟩):P:=h
theorem Im(h:P:=by
 ·rw[Zg h0]at h;exact absurd (congrArg Prod.snd h) h0
):P:=h
structure zo2 (k:Rat) (f g:zl):Prop where
 lk:zD (zc k) 1048575
 lfc:zD (zc f.c) 1048575
 lgc:zD (zc g.c) 1048575
 lgck:zD (zc (g.c*k)) 1048575
 lft:∀t∈f.ts,zD (zc t.2) 1048575
 lgt:∀t∈g.ts,zD (zc t.2) 1048575
 lgtk:∀t∈g.ts,zD (zc (t.2*k)) 1048575
 lsum:∀t∈f.ts,∀u∈g.ts,zD (zc (t.2+u.2*k)) 1048575
 llen:f.ts.length+g.ts.length<=1000000
structure zoV (w W:World) (f0 f1 f2 f3 g0 g1 g2 g3 k1 k2 k3:Value):Prop where
 fb:zbl W w.heap.size f0 f1 f2 f3
 gb:zbl W (w.heap.size+1) g0 g1 g2 g3
 cb:za4 W (w.heap.size+1+1) k1 k2 k3
 rb:zbl W (w.heap.size+1+1+1) (.slice none 0 0) (.bool false) (.slice none 0 0) (.slice none 0 0)
 nr:zX W (w.heap.size+1+1+1)
 bl:Below w.heap.size w W
theorem zoV.below{f0 f1 f2 f3:Value}(h:zoV w W f0 f1 f2 f3 g0 g1 g2 g3 k1 k2 k3)(hb:Below W.heap.size W W'):zoV w W' f0 f1 f2 f3 g0 g1 g2 g3 k1 k2 k3:=
 ⟨h.fb.below hb,h.gb.below hb,h.cb.below hb,h.rb.below hb,h.nr.below hb h.rb.lt,h.bl.trans (hb.mono h.bl.size)⟩
theorem zoV.pos{f0 f1 f2 f3:Value}(h:zoV w W f0 f1 f2 f3 g0 g1 g2 g3 k1 k2 k3):w.heap.size+1+1+1<W.heap.size:=h.rb.lt
theorem zoV.mk'(w:World)(f0 f1 f2 f3 g0 g1 g2 g3 k1 k2 k3:Value)(T T':TypeId):
  zoV w ((((w.alloc (.cells #[f0,f1,f2,f3] T)).alloc (.cells #[g0,g1,g2,g3] T)).alloc (.cells #[k1,k2,k3] T')).alloc (.cells #[.slice none 0 0,.bool false,.slice none 0 0,.slice none 0 0] T)) f0 f1 f2 f3 g0 g1 g2 g3 k1 k2 k3:=by
 have a1:=zbl.alloc w f0 f1 f2 f3 T;have b1:=blA w (.cells #[f0,f1,f2,f3] T);have s1:(w.alloc (.cells #[f0,f1,f2,f3] T)).heap.size=w.heap.size+1:=Yc;generalize w.alloc (.cells #[f0,f1,f2,f3] T)=W1 at *;have a2:=zbl.alloc W1 g0 g1 g2 g3 T;have b2:=blA W1 (.cells #[g0,g1,g2,g3] T);have s2:(W1.alloc (.cells #[g0,g1,g2,g3] T)).heap.size=w.heap.size+1+1:=Yi;generalize W1.alloc (.cells #[g0,g1,g2,g3] T)=W2 at *;have a3:=za4.alloc W2 k1 k2 k3 T';have b3:=blA W2 (.cells #[k1,k2,k3] T');have s3:(W2.alloc (.cells #[k1,k2,k3] T')).heap.size=w.heap.size+1+1+1:=Yi;generalize W2.alloc (.cells #[k1,k2,k3] T')=W3 at *;have a4:=zbl.alloc W3 (.slice none 0 0) (.bool false) (.slice none 0 0) (.slice none 0 0) T;have n4:=zX.alloc W3 #[.slice none 0 0,.bool false,.slice none 0 0,.slice none 0 0] T Yc;have b4:=blA W3 (.cells #[.slice none 0 0,.bool false,.slice none 0 0,.slice none 0 0] T);generalize W3.alloc (.cells #[.slice none 0 0,.bool false,.slice none 0 0,.slice none 0 0] T)=W4 at *;rw[s1]at a2;rw[s2]at a3;rw[s3]at a4 n4;have b34:=b3.trans (b4.mono b3.size);have b24:=b2.trans (b34.mono b2.size);exact⟨a1.below b24,a2.below b34,a3.below b4,a4,n4,b1.trans (b24.mono b1.size)⟩
def zrT(base:Nat)(v:Value)(l:List Nat):Prop:=l=[] ∨ ∀(b off n c:Nat),v=.slice (some ⟨b,off,none⟩) n c->b<base
theorem zw.low{c:Nat}(h:zw w a l):zrT w.heap.size (.slice a n c) l:=by
 by_cases hl:l=[]
 ·exact .inl hl
 ·obtain⟨b,off,rfl,hb,_⟩:=h.open hl
  refine .inr fun b' off' n' c' e=>?_
  cases e;exact hb
theorem zw.lowB{c:Nat}(h:zw w a l)(hl:zrT base (.slice a n c) l)(hb:Below base w w'):zw w' a l:=by
 by_cases he:l=[]
 ·rw[he];exact zw.nil _ _
 ·obtain⟨b,off,rfl,hbl,hc⟩:=h.open he
  rcases hl with hl|hl
  ·exact absurd hl he
  ·have hlt:=hl b off n c rfl
   refine⟨h.lim,h.len,h.row.imp id ?_⟩
   rintro⟨b',off',e,_,hcc⟩;cases e;exact⟨b,off,rfl,Zb hbl hb.size,fun j d hj=>(hb.cell (p:=⟨b,off+j,none⟩) hlt).trans (hcc j d hj)⟩
theorem zbU.lowB(h:zbU w p1 p2 p3 q)(h2:zrT base p2 (zc q).num)(h3:zrT base p3 (zc q).den)(hb:Below base w w'):zbU w' p1 p2 p3 q:=by
 obtain⟨an,ad,cn,cd,rfl,rfl,rfl,l1,l2,u1,u2⟩:=h.ex;exact⟨an,ad,cn,cd,rfl,rfl,rfl,l1,l2,u1.lowB h2 hb,u2.lowB h3 hb⟩
structure zmt (W wr:World) (b base:Nat) (s:Value) (out:List (Nat×Rat)) (r1 r2 r3:Value) (q:Rat):Prop where
 ob:zbl wr b s r1 r2 r3
 nb:zX wr b
 own:zdT zes noI 84 wr base s out
 rc:zbU wr r1 r2 r3 q
 v2:zrT base r2 (zc q).num
 v3:zrT base r3 (zc q).den
 bl:Below W.heap.size W wr
 ge:W.heap.size<=b
 lt:b<base
 le:base<=wr.heap.size
theorem zmt.below(h:zmt W wr b base s out r1 r2 r3 q)(hb:Below wr.heap.size wr w'):zmt W w' b base s out r1 r2 r3 q:=
 ⟨h.ob.below hb,h.nb.below hb h.ob.lt,h.own.below zby hb,h.rc.below hb,h.v2,h.v3,h.bl.trans (hb.mono h.bl.size),h.ge,h.lt,Zi h.le hb.size⟩
theorem zbl.store(h:zbl w g p0 p1 p2 p3)(q0 q1 q2 q3:Value):zbl ((((w.setCell ⟨g,0,none⟩ q0).setCell ⟨g,1,none⟩ q1).setCell ⟨g,2,none⟩ q2).setCell ⟨g,3,none⟩ q3) g q0 q1 q2 q3:=by
 refine⟨?_,?_,?_,?_,?_,Kw⟩
 ·rw[ZA _ _ _ _ Yo,ZA _ _ _ _ Yo,ZA _ _ _ _ Yo];exact I2
 ·rw[ZA _ _ _ _ Yo,ZA _ _ _ _ Yo];exact E4
 ·rw[ZA _ _ _ _ Yo];exact EQ
 ·exact Z3 _ _ _ ((ZA _ _ _ _ Yo).trans ((ZA _ _ _ _ Yo).trans ((ZA _ _ _ _ Yo).trans h.c3)))
 ·intro o;simp[Zai,h.free o]
theorem zcb(h:Below n w w')(hg:n<=g)(p q r s:Value):Below n w ((((w'.setCell ⟨g,0,none⟩ p).setCell ⟨g,1,none⟩ q).setCell ⟨g,2,none⟩ r).setCell ⟨g,3,none⟩ s):=
 (((h.setCell (p:=⟨g,0,none⟩) hg p).setCell (p:=⟨g,1,none⟩) hg q).setCell (p:=⟨g,2,none⟩) hg r).setCell (p:=⟨g,3,none⟩) hg s
theorem zmt.start(hb:Below W.heap.size W wr)(hge:W.heap.size<=b)(hx:zbl wr b (.slice none 0 0) (.bool false) (.slice none 0 0) (.slice none 0 0))(hn:zX wr b)(hr:zbU wr r1 r2 r3 q)(_:B<W.heap.size):
  zmt W ((((wr.setCell ⟨b,0,none⟩ (.slice none 0 0)).setCell ⟨b,1,none⟩ r1).setCell ⟨b,2,none⟩ r2).setCell ⟨b,3,none⟩ r3) b wr.heap.size (.slice none 0 0) [] r1 r2 r3 q:=by
 obtain⟨an,ad,cn,cd,rfl,rfl,rfl,l1,l2,u1,u2⟩:=hr.ex;have n1:=hn.setCell 0 (.slice none 0 0) Yc;have n2:=n1.setCell 1 (.bool (zc q).neg) Yc;have n3:=n2.setCell 2 (.slice an (zc q).num.length cn) Yc;have n4:=n3.setCell 3 (.slice ad (zc q).den.length cd) Yc;exact⟨hx.store _ _ _ _,n4,zdT.nil _ _,(((hr.setCell hn _ _).setCell n1 _ _).setCell n2 _ _).setCell n3 _ _,u1.low,u2.low,zcb hb hge _ _ _ _,hge,hx.lt,Yc⟩
theorem zmt.put{w3:World}{out':List (Nat×Rat)}{c:Nat}(h:zmt W wr b base s out (.bool b0) (.slice an nn cn) (.slice ad nd cd) q)(ho:zdT zes noI 84 w3 base (.slice a n c) out')(hb:Below base wr w3):
  zmt W ((((w3.setCell ⟨b,0,none⟩ (.slice a n c)).setCell ⟨b,1,none⟩ (.bool b0)).setCell ⟨b,2,none⟩ (.slice an nn cn)).setCell ⟨b,3,none⟩ (.slice ad nd cd)) b base (.slice a n c) out' (.bool b0) (.slice an nn cn) (.slice ad nd cd) q:=by
 have hn:zX w3 b:=fun o x e=>h.nb o x ((hb.cell (p:=⟨b,o,none⟩) h.lt).symm.trans e)
 have n1:=hn.setCell 0 (.slice a n c) Yc;have n2:=n1.setCell 1 (.bool b0) Yc;have n3:=n2.setCell 2 (.slice an nn cn) Yc;have n4:=n3.setCell 3 (.slice ad nd cd) Yc;have hne:(Value.slice a n c).ownBlock≠some b:=fun e=>by have:=(ho.lt e).1;have:=h.lt;omega
 have hr:zbU w3 (.bool b0) (.slice an nn cn) (.slice ad nd cd) q:=h.rc.lowB h.v2 h.v3 hb;have hge:W.heap.size<=base:=by have:=h.ge;have:=h.lt;omega
 exact⟨(h.ob.belowB hb h.lt).store _ _ _ _,n4,zS (zS (zS (zS ho hn hne _ _) n1 hne _ _) n2 hne _ _) n3 hne _ _,(((hr.setCell hn _ _).setCell n1 _ _).setCell n2 _ _).setCell n3 _ _,h.v2,h.v3,
  zcb (h.bl.trans (hb.mono hge)) h.ge _ _ _ _,h.ge,h.lt,by have:=h.le;have:=hb.size;simp;omega⟩
theorem zc3(l:List (Nat×Rat))(v:Nat)(q:Rat):(zcs l v q).length<=l.length+1:=by
 unfold zcs
 split
 ·omega
 ·simp
def ztY(v:Value):Nat:=match v with | .slice _ n _=>n|_=>0
structure zhN (w W wr:World) (k:Rat) (f g:zl) (b base:Nat) (r1 r2 r3:Value) (q:Rat) (A B out:List (Nat×Rat)) (aA aB ao:Option Addr) (nA cA nB cB no co lo:Nat):Prop where
 lA:A.length=nA
 lB:B.length=nB
 lo':out.length=no
 cA':nA<=cA
 cB':nB<=cB
 tA:zag w aA A
 tB:zag w aB B
 mg:zj5 k f.ts g.ts out A B lo
 mA:∀t∈A,t∈f.ts
 mB:∀t∈B,t∈g.ts
 few:no+nA+nB<=1000000
 st:zmt W wr b base (.slice ao no co) out r1 r2 r3 q
theorem zag.head(h:zag w a ((u,p)::A)):∃b o pn pd pcn pcd,a=some ⟨b,o,none⟩/\b<w.heap.size/\w.cell? ⟨b,o,none⟩=some (.int .i64 (u:Int))/\w.cell? ⟨b,o+1,none⟩=some (.bool (zc p).neg)/\w.cell? ⟨b,o+2,none⟩=some (.slice pn (zc p).num.length pcn)/\w.cell? ⟨b,o+3,none⟩=some (.slice pd (zc p).den.length pcd)/\
  RatV w (.agg #[.bool (zc p).neg,.slice pn (zc p).num.length pcn,.slice pd (zc p).den.length pcd]) (zc p)/\zag w (some ⟨b,o+4,none⟩) A:=by
 obtain⟨b,o,x,p0,p1,p2,p3,rfl,hb,hx,c0,c1,c2,c3,e0,hr⟩:=h.pick (k:=0) Yc;have hx:(u,p)=x:=by simpa using hx
 subst hx;obtain⟨pn,pd,pcn,pcd,rfl,rfl,rfl,l1,l2,u1,u2⟩:=hr.ex;subst e0;simp only[Zbe,ZU]at c0 c1 c2 c3;have hd:=h.drop 1;rw[ZG,ZO,Zao]at hd;exact⟨b,o,pn,pd,pcn,pcd,rfl,hb,c0,c1,c2,c3,⟨pn,pd,pcn,pcd,rfl,l1,l2,u1,u2⟩,hd⟩
theorem zhN.left{g:zl}{B:List (Nat×Rat)}(h:zhN w W wr k f g b base r1 r2 r3 q ((u,p)::A') B out aA aB ao nA cA nB cB no co lo)
 (hs:zmt W w6 b base (.slice a5 n5 c5) (zcs out u p) r1 r2 r3 q)(hn:(zcs out u p).length=n5)(ht:zag w a' A')(hB:zbB B (u+1)):zhN w W w6 k f g b base r1 r2 r3 q A' B (zcs out u p) a' aB a5 (nA-1) (cA-1) nB cB n5 c5 (u+1):=by
 have l1:=h.lA;have l2:=h.cA';have l3:=zc3 out u p;have l4:=h.lo';have l5:=h.few;rw[ZH]at l1;exact⟨Ya,h.lB,hn,Ya,h.cB',ht,h.tB,h.mg.left hB,fun t ht=>h.mA t (ZaP _ ht),h.mB,Ya,hs⟩
theorem zhN.right{g:zl}(h:zhN w W wr k f g b base r1 r2 r3 q A ((u,p)::B') out aA aB ao nA cA nB cB no co lo)
 (hs:zmt W w6 b base (.slice a5 n5 c5) (zcs out u (p*k)) r1 r2 r3 q)(hn:(zcs out u (p*k)).length=n5)(ht:zag w a' B')(hA:zbB A (u+1)):zhN w W w6 k f g b base r1 r2 r3 q A B' (zcs out u (p*k)) aA a' a5 nA cA (nB-1) (cB-1) n5 c5 (u+1):=by
 have l1:=h.lB;have l2:=h.cB';have l3:=zc3 out u (p*k);have l4:=h.lo';have l5:=h.few;rw[ZH]at l1;exact⟨h.lA,Ya,hn,h.cA',Ya,h.tA,ht,h.mg.right hA,h.mA,fun t ht=>h.mB t (ZaP _ ht),Ya,hs⟩
theorem zhN.both{g:zl}{b':Option Addr}(h:zhN w W wr k f g b base r1 r2 r3 q ((u,p)::A') ((u,z)::B') out aA aB ao nA cA nB cB no co lo)
 (hs:zmt W w6 b base (.slice a5 n5 c5) (zcs out u (p+z*k)) r1 r2 r3 q)(hn:(zcs out u (p+z*k)).length=n5)(ht:zag w a' A')(ht':zag w b' B'):zhN w W w6 k f g b base r1 r2 r3 q A' B' (zcs out u (p+z*k)) a' b' a5 (nA-1) (cA-1) (nB-1) (cB-1) n5 c5 (u+1):=by
 have l1:=h.lB;have l2:=h.cB';have l3:=zc3 out u (p+z*k);have l4:=h.lo';have l5:=h.few;have l6:=h.lA;have l7:=h.cA';rw[ZH]at l1 l6;exact⟨Ya,Ya,hn,Ya,Ya,ht,ht',h.mg.both,fun t ht=>h.mA t (ZaP _ ht),fun t ht=>h.mB t (ZaP _ ht),Ya,hs⟩
theorem zhN.emptyA{g:zl}{t:Nat×Rat}{B:List (Nat×Rat)}(h:zhN w W wr k f g b base r1 r2 r3 q (t::A') B out aA aB ao nA cA nB cB no co lo)(hc:¬ 1<cA):zag w a' A':=by
 have l1:=h.lA;have l2:=h.cA';rw[ZH]at l1;obtain rfl:A'=[]:=Zy Ya;exact⟨Zs _,.inl rfl⟩
theorem zhN.emptyB{g:zl}{t:Nat×Rat}(h:zhN w W wr k f g b base r1 r2 r3 q A (t::B') out aA aB ao nA cA nB cB no co lo)(hc:¬ 1<cB):zag w a' B':=by
 have l1:=h.lB;have l2:=h.cB';rw[ZH]at l1;obtain rfl:B'=[]:=Zy Ya;exact⟨Zs _,.inl rfl⟩
theorem zhN.upB{g:zl}(h:zhN w W wr k f g b base r1 r2 r3 q ((u,p)::A') ((v,z)::B') out aA aB ao nA cA nB cB no co lo)(hlt:u<v):zbB ((v,z)::B') (u+1):=⟨hlt,h.mg.cb.2.1,h.mg.cb.2.2⟩
theorem zhN.upA{g:zl}(h:zhN w W wr k f g b base r1 r2 r3 q ((u,p)::A') ((v,z)::B') out aA aB ao nA cA nB cB no co lo)(hlt:v<u):zbB ((u,p)::A') (v+1):=⟨hlt,h.mg.ca.2.1,h.mg.ca.2.2⟩
theorem zhN.post{g:zl}{qc:Rat}{f0 f1 f2 f3:Value}
 (h:zhN w W wr k f g b base (.bool b0) (.slice an nn cn) (.slice ad nd cd) qc [] [] out aA aB ao nA cA nB cB no co lo)(hw:zoV w W f0 f1 f2 f3 g0 g1 g2 g3 k1 k2 k3)(hq:qc=f.c+g.c*k):
  za2 w (zbi k f g) (.returned (.agg #[.slice ao no co,.bool b0,.slice an nn cn,.slice ad nd cd]))
   ((((wr.setCell ⟨w.heap.size+1+1+1,0,none⟩ (.slice ao no co)).setCell ⟨w.heap.size+1+1+1,1,none⟩ (.bool b0)).setCell ⟨w.heap.size+1+1+1,2,none⟩ (.slice an nn cn)).setCell ⟨w.heap.size+1+1+1,3,none⟩ (.slice ad nd cd)):=by
 have hn:=(hw.below h.st.bl).nr;have n1:=hn.setCell 0 (.slice ao no co) Yc;have n2:=n1.setCell 1 (.bool b0) Yc;have n3:=n2.setCell 2 (.slice an nn cn) Yc;have hpos:=hw.pos;have hne:(Value.slice ao no co).ownBlock≠some (w.heap.size+1+1+1):=fun e=>by have:=(h.st.own.lt e).1;have:=h.st.lt;have:=h.st.ge;omega
 have hO:=zS (zS (zS (zS h.st.own hn hne 0 (.slice ao no co)) n1 hne 1 (.bool b0)) n2 hne 2 (.slice an nn cn)) n3 hne 3 (.slice ad nd cd);have hR:=(((h.st.rc.setCell hn 0 (.slice ao no co)).setCell n1 1 (.bool b0)).setCell n2 2 (.slice an nn cn)).setCell n3 3 (.slice ad nd cd);have hlen:=h.lo';have hfew:=h.few;have hdone:=h.mg.done;have hB:Below w.heap.size w wr:=hw.bl.trans (h.st.bl.mono hw.bl.size);subst hlen;obtain⟨a',c',e',hc'⟩:=hO.form;cases e';have hrow:=hO.read Ya
 refine⟨_,rfl,⟨_,_,_,_,rfl,⟨ao,co,?_,?_,?_⟩,?_⟩,zcb hB Ya _ _ _ _⟩
 ·show _=Value.slice ao (zfm k f.ts g.ts).length co
  rw[<- hdone]
 ·show(zfm k f.ts g.ts).length<=co
  rw[<- hdone];exact hc'
 ·show zag _ ao (zfm k f.ts g.ts)
  rw[<- hdone];exact hrow
 ·show zbU _ _ _ _ (f.c+k*g.c)
  rw[show f.c+k*g.c=qc by rw[hq,Rat.mul_comm]];exact hR
theorem zqp{w:World}{vf vg vk:Value}{f g:zl}{k:Rat}(hf:zap w vf f)(hg:zap w vg g)(hk:RatV w vk (zc k))(cf:f.Can)(cg:g.Can)(hle:zo2 k f g):
  Calls Tryz.prog 93 #[vf,vg,vk] w (za2 w (zbi k f g)):=by
 obtain⟨aF,cF,fan,fad,fcn,fcd,rfl,hcF,htF,l1,l2,u1,u2⟩:=hf.parts;obtain⟨aG,cG,gan,gad,gcn,gcd,rfl,hcG,htG,m1,m2,v1,v2⟩:=hg.parts;obtain⟨kn,kd,kcn,kcd,rfl,n1,n2,x1,x2⟩:=hk.ex;have HFc:Hid (RatV w (.agg #[.bool (zc f.c).neg,.slice fan (zc f.c).num.length fcn,.slice fad (zc f.c).den.length fcd]) (zc f.c)):=⟨fan,fad,fcn,fcd,rfl,l1,l2,u1,u2⟩
 have HGc:Hid (RatV w (.agg #[.bool (zc g.c).neg,.slice gan (zc g.c).num.length gcn,.slice gad (zc g.c).den.length gcd]) (zc g.c)):=⟨gan,gad,gcn,gcd,rfl,m1,m2,v1,v2⟩
 have HKc:Hid (RatV w (.agg #[.bool (zc k).neg,.slice kn (zc k).num.length kcn,.slice kd (zc k).den.length kcd]) (zc k)):=⟨kn,kd,kcn,kcd,rfl,n1,n2,x1,x2⟩
 obtain⟨HTF,HTG,HcF,HcG,HLe⟩:=hd5 htF htG cf cg hle;have HW:=hid (zoV.mk' w (.slice aF f.ts.length cF) (.bool (zc f.c).neg) (.slice fan (zc f.c).num.length fcn) (.slice fad (zc f.c).den.length fcd) (.slice aG g.ts.length cG) (.bool (zc g.c).neg) (.slice gan (zc g.c).num.length gcn) (.slice gad (zc g.c).den.length gcd)
  (.bool (zc k).neg) (.slice kn (zc k).num.length kcn) (.slice kd (zc k).den.length kcd) 53 51)
 have hlF:=htF.len;have hlG:=htG.len;clear hf hg hk cf cg hle htF htG u1 u2 v1 v2 x1 x2
 go_enter Tryz.func93,Tryz.ntmps93
 go_upto_region 1 with fail
 generalize(((w.alloc (.cells #[.slice aF f.ts.length cF,.bool (zc f.c).neg,.slice fan (zc f.c).num.length fcn,.slice fad (zc f.c).den.length fcd] 53)).alloc (.cells #[.slice aG g.ts.length cG,.bool (zc g.c).neg,.slice gan (zc g.c).num.length gcn,.slice gad (zc g.c).den.length gcd] 53)).alloc (.cells #[.bool (zc k).neg,.slice kn (zc k).num.length kcn,.slice kd (zc k).den.length kcd] 51)).alloc (.cells #[.slice none 0 0,.bool false,.slice none 0 0,.slice none 0 0] 53)=W at *;obtain⟨qc,hqc⟩:∃qc,qc=f.c+g.c*k:=⟨_,rfl⟩
 have HQc:=hid hqc;clear hqc;have HMul:Hid (∀X,Below W.heap.size W X->Calls Tryz.prog 134 #[.agg #[.bool (zc g.c).neg,.slice gan (zc g.c).num.length gcn,.slice gad (zc g.c).den.length gcd],.agg #[.bool (zc k).neg,.slice kn (zc k).num.length kcn,.slice kd (zc k).den.length kcd]] X (zcj X (zc (g.c*k)))):=fun X hb=>by
  have hb2:=HW.out.bl.trans (hb.mono HW.out.bl.size);have h:=zua (HGc.out.below hb2) (HKc.out.below hb2) HLe.out.lgc HLe.out.lk;exact T9
 have HAdd:Hid (∀X,Below W.heap.size W X->∀z,RatV X z (zc (g.c*k))->Calls Tryz.prog 133 #[.agg #[.bool (zc f.c).neg,.slice fan (zc f.c).num.length fcn,.slice fad (zc f.c).den.length fcd],z] X (zcj X (zc qc))):=fun X hb z hz=>by
  rw[HQc.out];have hb2:=HW.out.bl.trans (hb.mono HW.out.bl.size);have h:=zt9 (HFc.out.below hb2) hz HLe.out.lfc HLe.out.lgck;exact T9
 refine zj 9 Yb Yb Yb Yb Yd (zbZ W.heap.size W) (fun w w'=>Below w.heap.size w w') (GQ [.val (.pointer (some ⟨w.heap.size,1,none⟩)),.val (.agg #[.bool (zc f.c).neg,.slice fan (zc f.c).num.length fcn,.slice fad (zc f.c).den.length fcd]),.val (.pointer (some ⟨w.heap.size+1,1,none⟩)),.val (.agg #[.bool (zc g.c).neg,.slice gan (zc g.c).num.length gcn,.slice gad (zc g.c).den.length gcd]),.val (.agg #[.bool (zc k).neg,.slice kn (zc k).num.length kcn,.slice kd (zc k).den.length kcd]),.rat (g.c*k),.rat qc,.num qc,.new4 W.heap.size]) (fun i v w w' h hb=>zaV h hb) (zbZ.start (Za _)) ?_ ?_
 ·intro ops;simp only[Zo,Zw,zbR]
  refine⟨?v0,?v1,?v2,?v3,?v4,?_,?_,?_,?_,trivial⟩
  all_goals (intro y X hR hL;have hB:=hR.base;have HW1:=hid (HW.out.below hR.be);obtain⟨f0,f1,f2,f3,_,ft⟩:=HW1.out.fb;obtain⟨g0,g1,g2,g3,_,gt⟩:=HW1.out.gb;obtain⟨k0,k1,k2,_,kt⟩:=HW1.out.cb;simp only[zdt,Region.binds,ZB,Zn,Zx,GQ,Zf,Zc]at hL;simp[ze,Act.put])
  case v0|v1|v2|v3|v4=>
   exact Ut
  ·exact Oh
  ·generalize y 1=y1 at hL⊢;generalize y 5=y5 at hL⊢;obtain⟨rfl,H5,_,_⟩:=hL;obtain⟨K5,HR⟩:=hd2 H5 hR;clear hR H5;have HCt:=hid (HAdd.out X HR.out.be _ K5.out);exact Um
  ·generalize y 6=y6 at hL⊢;obtain⟨H6,_⟩:=hL;obtain⟨K6,HR⟩:=hd2 H6 hR;clear hR H6;obtain⟨an',ad',cn',cd',rfl,l1,l2,u1,u2⟩:=K6.out.ex;have HRC:=hid (show zbU X _ _ _ _ from⟨an',ad',cn',cd',rfl,rfl,rfl,l1,l2,u1,u2⟩);clear u1 u2 K6;go_wp2;exact⟨_,rfl,HR.out,Ze _ _,_,_,_,rfl,HRC.out⟩
  ·try simp only[hL]
   clear hL;have HR:=hid hR;clear hR;obtain⟨HK4,HN4,HBa⟩:=hd3 (zbl.alloc X (.slice none 0 0) (.bool false) (.slice none 0 0) (.slice none 0 0) 53) (zX.alloc X #[.slice none 0 0,.bool false,.slice none 0 0,.slice none 0 0] 53 Yc) ((Ze X.heap.size X).alloc (Za _) (.cells #[.slice none 0 0,.bool false,.slice none 0 0,.slice none 0 0] 53));exact Em
 ·intro ops y X hR hL;have hB:=hR.base;have J7:=hL.1.2;have J8:=hL.2;simp only[GQ,Zf,Zc]at J7 J8;have HW1:=hid (HW.out.below hR.be);obtain⟨f0,f1,f2,f3,_,ft⟩:=HW1.out.fb;obtain⟨g0,g1,g2,g3,_,gt⟩:=HW1.out.gb;obtain⟨k0,k1,k2,_,kt⟩:=HW1.out.cb;clear hL;simp only[Zo,Zw,ZG,ZO];simp[ze,Act.put];generalize y 7=y7 at J7⊢;generalize y 8=y8 at J8⊢;have HR:=hid hR;clear hR;obtain⟨r1,r2,r3,rfl,hrc⟩:=J7;obtain⟨b,rfl,hge,hbx,hni⟩:=J8;obtain⟨rn,rd,rcn,rcd,rfl,rfl,rfl,l1,l2,u1,u2⟩:=hrc.ex;have HSt:=hid (zmt.start (wr:=X) HR.out.be hge hbx hni ⟨rn,rd,rcn,rcd,rfl,rfl,rfl,l1,l2,u1,u2⟩ HW.out.pos);have hlt:=hbx.lt;obtain⟨b0,b1,b2,b3,bf,_⟩:=hbx;clear hrc u1 u2;obtain⟨base,hbase⟩:∃base,base=X.heap.size:=⟨_,rfl⟩
  rw[<- hbase]at HSt
  go_upto_region 2 with fail
  generalize((((X.setCell ⟨b,0,none⟩ (.slice none 0 0)).setCell ⟨b,1,none⟩ (.bool (zc qc).neg)).setCell ⟨b,2,none⟩ (.slice rn (zc qc).num.length rcn)).setCell ⟨b,3,none⟩ (.slice rd (zc qc).den.length rcd))=W1 at *;clear b0 b1 b2 b3 bf hlt hge hni hbase f0 f1 f2 f3 ft g0 g1 g2 g3 gt k0 k1 k2 kt HW1 HR HMul HAdd;have HW2:=hid (HW.out.below HSt.out.bl);obtain⟨f0,f1,f2,f3,_,ft⟩:=HW2.out.fb;obtain⟨g0,g1,g2,g3,_,gt⟩:=HW2.out.gb
  go_quiet (fail)
  clear f0 f1 f2 f3 ft g0 g1 g2 g3 gt HW2;have HS2:=hid (HSt.out.below (below_drewN (Ze _ _) nq));generalize W1.drewN nq=W2 at *;go_wp2
  go_loopw [8,9] (fun sa sb wr=>∃(A B out:List (Nat×Rat)) (aA aB ao:Option Addr) (nA cA nB cB no co lo:Nat),sa=.slice aA nA cA/\sb=.slice aB nB cB/\Hid (zhN w W wr k f g b base (.bool (zc qc).neg) (.slice rn (zc qc).num.length rcn) (.slice rd (zc qc).den.length rcd) qc A B out aA aB ao nA cA nB cB no co lo)) (fun sa sb _=>ztY sa+ztY sb)
  case atStart=>exact⟨f.ts,g.ts,[],aF,aG,none,f.ts.length,cF,g.ts.length,cG,0,0,0,rfl,rfl,rfl,rfl,rfl,hcF,hcG,HTF.out,HTG.out,zj5.start HcF.out HcG.out,fun t h=>h,fun t h=>h,by have:=HLe.out.llen;omega,HS2.out⟩
  case round=>
   obtain⟨A,B,out,aA,aB,ao,nA,cA,nB,cB,no,co,lo,rfl,rfl,HI⟩:=hrel;obtain⟨hww,_⟩:Below w.heap.size w wr/\True:=⟨HW.out.bl.trans (HI.out.st.bl.mono HW.out.bl.size),trivial⟩
   cases A with
   | nil=>
    obtain rfl:nA=0:=by have:=HI.out.lA;simpa using this.symm
    cases B with
    | nil=>
     obtain rfl:nB=0:=Vl;obtain⟨x0,x1,x2,x3,xf,xlt⟩:=HI.out.st.ob;obtain⟨r0,r1,r2,r3,rf,rlt⟩:=(HW.out.below HI.out.st.bl).rb;go_wp2;exact Zp (v:=.agg #[.slice ao no co,.bool (zc qc).neg,.slice rn (zc qc).num.length rcn,.slice rd (zc qc).den.length rcd]) (by simp[results,Tryz.results93,go_sem,r0,r1,r2,r3]) rfl (HI.out.post HW.out HQc.out)
    | cons tv B'=>
     obtain⟨v,z⟩:=tv;obtain⟨bB,oB,zn,zd,zcn,zcd,rfl,hbB,fB0,fB1,fB2,fB3,hvB,htB⟩:=zag.head HI.out.tB;have cB0:=(hww.cell (p:=⟨bB,oB,none⟩) hbB).trans fB0;have cB1:=(hww.cell (p:=⟨bB,oB+1,none⟩) hbB).trans fB1;have cB2:=(hww.cell (p:=⟨bB,oB+2,none⟩) hbB).trans fB2;have cB3:=(hww.cell (p:=⟨bB,oB+3,none⟩) hbB).trans fB3;have hbB2:=Zb hbB hww.size;obtain⟨HVB,HRB⟩:=hd2 hvB htB;have nB1:0<nB:=Kr;have tB:decide ((0:Int)<(nB:Int))=true:=Zk Ya;have tB':decide (0<nB)=true:=Zk Ya;have eB:((nB:Int)==0)=false:=bn0 Ya;have eB':¬ nB=0:=Ya;clear hvB htB;have cl0:=HI.out.cA';have cl1:=HI.out.cB'
     go_upto_region 6 with fail
     go_quiet (fail)
     have HS3:=hid (HI.out.st.below (below_drewN (Ze _ _) nq));generalize wr.drewN nq=w3 at *;have hw3:=hid (HW.out.bl.trans (HS3.out.bl.mono HW.out.bl.size))
     go_upto_region 9 with fail
     go_quiet (fail)
     have HS3:=hid (HS3.out.below (below_drewN (Ze _ _) nq));generalize w3.drewN nq=w3' at *;clear hw3;have hw3:=hid (HW.out.bl.trans (HS3.out.bl.mono HW.out.bl.size))
     go_upto_region 10 with fail
     have HM10:Hid (∀X,Below w3'.heap.size w3' X->Calls Tryz.prog 134 #[.agg #[.bool (zc z).neg,.slice zn (zc z).num.length zcn,.slice zd (zc z).den.length zcd],.agg #[.bool (zc k).neg,.slice kn (zc k).num.length kcn,.slice kd (zc k).den.length kcd]] X (zcj X (zc (z*k)))):=fun X hb=>by
      exact Tf
     refine zj 11 Yb Yb Yb Yb Yd (zbZ w3'.heap.size w3') (fun w w'=>Below w.heap.size w w') (GQ [.val (.agg #[.slice ao no co,.bool (zc qc).neg,.slice rn (zc qc).num.length rcn,.slice rd (zc qc).den.length rcd]),.val (.slice (some ⟨bB,oB,none⟩) nB cB),.val (.pointer (some ⟨bB,oB,none⟩)),.val (.pointer (some ⟨bB,oB,none⟩)),.val (.int .i64 (v:Int)),.val (.slice (some ⟨bB,oB,none⟩) nB cB),.val (.pointer (some ⟨bB,oB,none⟩)),.val (.pointer (some ⟨bB,oB+1,none⟩)),.val (.agg #[.bool (zc z).neg,.slice zn (zc z).num.length zcn,.slice zd (zc z).den.length zcd]),.val (.agg #[.bool (zc k).neg,.slice kn (zc k).num.length kcn,.slice kd (zc k).den.length kcd]),.rat (z*k)]) (fun i v w w' h hb=>zaV h hb) (zbZ.start (Za _)) ?_ ?_
     ·exact IV
     ·intro ops y X hR hL;have hB:=hR.base;have J0:=hL.1.1.1.1.1.1.1.1.1.1.2;have J4:=hL.1.1.1.1.1.1.2;have J10:=hL.2;simp only[GQ,Zf,Zc]at J0 J4 J10;have HSW:=hid (HS3.out.below hR.be);obtain⟨x0,x1,x2,x3,xf,xlt⟩:=HSW.out.ob;have hwW:=htr hw3 hR.be;have dB0:=(hwW.out.cell (p:=⟨bB,oB,none⟩) hbB).trans fB0;have dB1:=(hwW.out.cell (p:=⟨bB,oB+1,none⟩) hbB).trans fB1;have dB2:=(hwW.out.cell (p:=⟨bB,oB+2,none⟩) hbB).trans fB2;have dB3:=(hwW.out.cell (p:=⟨bB,oB+3,none⟩) hbB).trans fB3;have hbB3:=Zb hbB hwW.out.size;obtain⟨k0,k1,k2,_,kt⟩:=(HW.out.below HSW.out.bl).cb;clear hL;simp only[Zo,Zw,ZG,ZO];simp[ze,Act.put];generalize y 0=y0 at J0⊢;obtain rfl:=J0;generalize y 4=y4 at J4⊢;obtain rfl:=J4;generalize y 10=y10 at J10⊢;have HR:=hid hR;clear hR;have HZ:=hid J10;have hfew:=HI.out.few;have HPut:=hid (zsb (b0:=(zc qc).neg) (an:=rn) (ad:=rd) (nn:=(zc qc).num.length) (cn:=rcn) (nd:=(zc qc).den.length) (cd:=rcd) (v:=v) HSW.out.own HI.out.lo' HSW.out.le HZ.out (zD.mono (HLe.out.lgtk _ (HI.out.mB _ Zal)) Ya) Ya);clear hfew x0 x1 x2 x3 xf xlt
      go_wp2_with fail
      refine HPut.out.mono ?_
      rintro ee w5 ⟨a5,c5,rfl,ho5,hb5⟩;obtain⟨HS5,HL5⟩:=hd2 (HSW.out.put ho5 hb5) (zc3 out v (z*k));obtain⟨x0,x1,x2,x3,xf,xlt⟩:=HSW.out.ob.belowB hb5 HSW.out.lt;clear ho5 hb5 HPut;have HT5:=hid (rfl:zcs out v (z*k)=zcs out v (z*k));generalize hn5:(zcs out v (z*k)).length=n5 at *;have Hn5:=hid hn5;clear hn5
      go_upto_region 11 with fail
      generalize((((w5.setCell ⟨b,0,none⟩ (.slice a5 n5 c5)).setCell ⟨b,1,none⟩ (.bool (zc qc).neg)).setCell ⟨b,2,none⟩ (.slice rn (zc qc).num.length rcn)).setCell ⟨b,3,none⟩ (.slice rd (zc qc).den.length rcd))=w6 at *;clear x0 x1 x2 x3 xf xlt
      by_cases h1:1<cB
      ·go_wp2;exact⟨⟨[],B',zcs out v (z*k),_,_,a5,0,cA,nB-1,cB-1,n5,c5,v+1,rfl,rfl,HI.out.right HS5.out Hn5.out HRB.out trivial⟩,Yz⟩
      ·go_wp2;exact⟨⟨[],B',zcs out v (z*k),_,_,a5,0,cA,nB-1,cB-1,n5,c5,v+1,rfl,rfl,HI.out.right HS5.out Hn5.out (HI.out.emptyB h1) trivial⟩,Yz⟩
   | cons tu A'=>
    obtain⟨u,p⟩:=tu;obtain⟨bA,oA,pn,pd,pcn,pcd,rfl,hbA,fA0,fA1,fA2,fA3,hvA,htA⟩:=zag.head HI.out.tA;have cA0:=(hww.cell (p:=⟨bA,oA,none⟩) hbA).trans fA0;have cA1:=(hww.cell (p:=⟨bA,oA+1,none⟩) hbA).trans fA1;have cA2:=(hww.cell (p:=⟨bA,oA+2,none⟩) hbA).trans fA2;have cA3:=(hww.cell (p:=⟨bA,oA+3,none⟩) hbA).trans fA3;have hbA2:=Zb hbA hww.size;obtain⟨HVA,HRA⟩:=hd2 hvA htA;have nA1:0<nA:=by have:=HI.out.lA;rw[ZH]at this;omega
    have tA:decide ((0:Int)<(nA:Int))=true:=Zk Ya;have tA':decide (0<nA)=true:=Zk Ya;have eA:((nA:Int)==0)=false:=bn0 Ya;have eA':¬ nA=0:=Ya;clear hvA htA
    cases B with
    | nil=>
     obtain rfl:nB=0:=Vl;have cl0:=HI.out.cA';have cl1:=HI.out.cB'
     go_upto_region 6 with fail
     go_quiet (fail)
     have HS3:=hid (HI.out.st.below (below_drewN (Ze _ _) nq));generalize wr.drewN nq=w3 at *;have hw3:=hid (HW.out.bl.trans (HS3.out.bl.mono HW.out.bl.size))
     go_upto_region 7 with fail
     refine zj 9 Yb Yb Yb Yb Yd (zbZ w3.heap.size w3) (fun w w'=>Below w.heap.size w w') (GQ [.val (.agg #[.slice ao no co,.bool (zc qc).neg,.slice rn (zc qc).num.length rcn,.slice rd (zc qc).den.length rcd]),.val (.slice (some ⟨bA,oA,none⟩) nA cA),.val (.pointer (some ⟨bA,oA,none⟩)),.val (.pointer (some ⟨bA,oA,none⟩)),.val (.int .i64 (u:Int)),.val (.slice (some ⟨bA,oA,none⟩) nA cA),.val (.pointer (some ⟨bA,oA,none⟩)),.val (.pointer (some ⟨bA,oA+1,none⟩)),.val (.agg #[.bool (zc p).neg,.slice pn (zc p).num.length pcn,.slice pd (zc p).den.length pcd])]) (fun i v w w' h hb=>zaV h hb) (zbZ.start (Za _)) ?_ ?_
     ·exact IY
     ·intro ops y X hR hL;have hB:=hR.base;have J0:=hL.1.1.1.1.1.1.1.1.2;have J4:=hL.1.1.1.1.2;have J8:=hL.2;simp only[GQ,Zf,Zc]at J0 J4 J8;have HSW:=hid (HS3.out.below hR.be);obtain⟨x0,x1,x2,x3,xf,xlt⟩:=HSW.out.ob;have hwW:=htr hw3 hR.be;have dA0:=(hwW.out.cell (p:=⟨bA,oA,none⟩) hbA).trans fA0;have dA1:=(hwW.out.cell (p:=⟨bA,oA+1,none⟩) hbA).trans fA1;have dA2:=(hwW.out.cell (p:=⟨bA,oA+2,none⟩) hbA).trans fA2;have dA3:=(hwW.out.cell (p:=⟨bA,oA+3,none⟩) hbA).trans fA3;have hbA3:=Zb hbA hwW.out.size;clear hL;simp only[Zo,Zw,ZG,ZO];simp[ze,Act.put];generalize y 0=y0 at J0⊢;obtain rfl:=J0;generalize y 4=y4 at J4⊢;obtain rfl:=J4;generalize y 8=y8 at J8⊢;obtain rfl:=J8;have HR:=hid hR;clear hR;have hfew:=HI.out.few;have HPut:=hid (zsb (b0:=(zc qc).neg) (an:=rn) (ad:=rd) (nn:=(zc qc).num.length) (cn:=rcn) (nd:=(zc qc).den.length) (cd:=rcd) (v:=u) HSW.out.own HI.out.lo' HSW.out.le (HVA.out.below hwW.out) (zD.mono (HLe.out.lft _ (HI.out.mA _ Zal)) Ya) Ya);clear hfew x0 x1 x2 x3 xf xlt
      go_wp2_with fail
      refine HPut.out.mono ?_
      rintro ee w5 ⟨a5,c5,rfl,ho5,hb5⟩;obtain⟨HS5,HL5⟩:=hd2 (HSW.out.put ho5 hb5) (zc3 out u p);obtain⟨x0,x1,x2,x3,xf,xlt⟩:=HSW.out.ob.belowB hb5 HSW.out.lt;clear ho5 hb5 HPut;have HT5:=hid (rfl:zcs out u p=zcs out u p);generalize hn5:(zcs out u p).length=n5 at *;have Hn5:=hid hn5;clear hn5
      go_upto_region 8 with fail
      generalize((((w5.setCell ⟨b,0,none⟩ (.slice a5 n5 c5)).setCell ⟨b,1,none⟩ (.bool (zc qc).neg)).setCell ⟨b,2,none⟩ (.slice rn (zc qc).num.length rcn)).setCell ⟨b,3,none⟩ (.slice rd (zc qc).den.length rcd))=w6 at *;clear x0 x1 x2 x3 xf xlt
      by_cases h1:1<cA
      ·go_wp2;exact⟨⟨A',[],zcs out u p,_,_,a5,nA-1,cA-1,0,cB,n5,c5,u+1,rfl,rfl,HI.out.left HS5.out Hn5.out HRA.out trivial⟩,Yz⟩
      ·go_wp2;exact⟨⟨A',[],zcs out u p,_,_,a5,nA-1,cA-1,0,cB,n5,c5,u+1,rfl,rfl,HI.out.left HS5.out Hn5.out (HI.out.emptyA h1) trivial⟩,Yz⟩
    | cons tv B'=>
     obtain⟨v,z⟩:=tv;obtain⟨bB,oB,zn,zd,zcn,zcd,rfl,hbB,fB0,fB1,fB2,fB3,hvB,htB⟩:=zag.head HI.out.tB;have cB0:=(hww.cell (p:=⟨bB,oB,none⟩) hbB).trans fB0;have cB1:=(hww.cell (p:=⟨bB,oB+1,none⟩) hbB).trans fB1;have cB2:=(hww.cell (p:=⟨bB,oB+2,none⟩) hbB).trans fB2;have cB3:=(hww.cell (p:=⟨bB,oB+3,none⟩) hbB).trans fB3;have hbB2:=Zb hbB hww.size;obtain⟨HVB,HRB⟩:=hd2 hvB htB;have nB1:0<nB:=Kr;have tB:decide ((0:Int)<(nB:Int))=true:=Zk Ya;have tB':decide (0<nB)=true:=Zk Ya;have eB:((nB:Int)==0)=false:=bn0 Ya;have eB':¬ nB=0:=Ya;clear hvB htB
     rcases Zbo u v with hlt|heq|hgt
     ·have tq:decide ((u:Int)<(v:Int))=true:=Zk Ya;have cl0:=HI.out.cA';have cl1:=HI.out.cB'
      go_upto_region 6 with fail
      go_quiet (fail)
      have HS3:=hid (HI.out.st.below (below_drewN (Ze _ _) nq));generalize wr.drewN nq=w3 at *;have hw3:=hid (HW.out.bl.trans (HS3.out.bl.mono HW.out.bl.size))
      go_upto_region 7 with fail
      refine zj 9 Yb Yb Yb Yb Yd (zbZ w3.heap.size w3) (fun w w'=>Below w.heap.size w w') (GQ [.val (.agg #[.slice ao no co,.bool (zc qc).neg,.slice rn (zc qc).num.length rcn,.slice rd (zc qc).den.length rcd]),.val (.slice (some ⟨bA,oA,none⟩) nA cA),.val (.pointer (some ⟨bA,oA,none⟩)),.val (.pointer (some ⟨bA,oA,none⟩)),.val (.int .i64 (u:Int)),.val (.slice (some ⟨bA,oA,none⟩) nA cA),.val (.pointer (some ⟨bA,oA,none⟩)),.val (.pointer (some ⟨bA,oA+1,none⟩)),.val (.agg #[.bool (zc p).neg,.slice pn (zc p).num.length pcn,.slice pd (zc p).den.length pcd])]) (fun i v w w' h hb=>zaV h hb) (zbZ.start (Za _)) ?_ ?_
      ·exact IY
      ·intro ops y X hR hL;have hB:=hR.base;have J0:=hL.1.1.1.1.1.1.1.1.2;have J4:=hL.1.1.1.1.2;have J8:=hL.2;simp only[GQ,Zf,Zc]at J0 J4 J8;have HSW:=hid (HS3.out.below hR.be);obtain⟨x0,x1,x2,x3,xf,xlt⟩:=HSW.out.ob;have hwW:=htr hw3 hR.be;have dA0:=(hwW.out.cell (p:=⟨bA,oA,none⟩) hbA).trans fA0;have dA1:=(hwW.out.cell (p:=⟨bA,oA+1,none⟩) hbA).trans fA1;have dA2:=(hwW.out.cell (p:=⟨bA,oA+2,none⟩) hbA).trans fA2;have dA3:=(hwW.out.cell (p:=⟨bA,oA+3,none⟩) hbA).trans fA3;have hbA3:=Zb hbA hwW.out.size;clear hL;simp only[Zo,Zw,ZG,ZO];simp[ze,Act.put];generalize y 0=y0 at J0⊢;obtain rfl:=J0;generalize y 4=y4 at J4⊢;obtain rfl:=J4;generalize y 8=y8 at J8⊢;obtain rfl:=J8;have HR:=hid hR;clear hR;have hfew:=HI.out.few;have HPut:=hid (zsb (b0:=(zc qc).neg) (an:=rn) (ad:=rd) (nn:=(zc qc).num.length) (cn:=rcn) (nd:=(zc qc).den.length) (cd:=rcd) (v:=u) HSW.out.own HI.out.lo' HSW.out.le (HVA.out.below hwW.out) (zD.mono (HLe.out.lft _ (HI.out.mA _ Zal)) Ya) Ya);clear hfew x0 x1 x2 x3 xf xlt
       go_wp2_with fail
       refine HPut.out.mono ?_
       rintro ee w5 ⟨a5,c5,rfl,ho5,hb5⟩;obtain⟨HS5,HL5⟩:=hd2 (HSW.out.put ho5 hb5) (zc3 out u p);obtain⟨x0,x1,x2,x3,xf,xlt⟩:=HSW.out.ob.belowB hb5 HSW.out.lt;clear ho5 hb5 HPut;have HT5:=hid (rfl:zcs out u p=zcs out u p);generalize hn5:(zcs out u p).length=n5 at *;have Hn5:=hid hn5;clear hn5
       go_upto_region 8 with fail
       generalize((((w5.setCell ⟨b,0,none⟩ (.slice a5 n5 c5)).setCell ⟨b,1,none⟩ (.bool (zc qc).neg)).setCell ⟨b,2,none⟩ (.slice rn (zc qc).num.length rcn)).setCell ⟨b,3,none⟩ (.slice rd (zc qc).den.length rcd))=w6 at *;clear x0 x1 x2 x3 xf xlt
       by_cases h1:1<cA
       ·go_wp2;exact⟨⟨A',(v,z)::B',zcs out u p,_,_,a5,nA-1,cA-1,nB,cB,n5,c5,u+1,rfl,rfl,HI.out.left HS5.out Hn5.out HRA.out (HI.out.upB hlt)⟩,Yz⟩
       ·go_wp2;exact⟨⟨A',(v,z)::B',zcs out u p,_,_,a5,nA-1,cA-1,nB,cB,n5,c5,u+1,rfl,rfl,HI.out.left HS5.out Hn5.out (HI.out.emptyA h1) (HI.out.upB hlt)⟩,Yz⟩
     ·subst heq;have tq:decide ((u:Int)<(u:Int))=false:=Zj Ya;have cl0:=HI.out.cA';have cl1:=HI.out.cB'
      go_upto_region 6 with fail
      go_quiet (fail)
      have HS3:=hid (HI.out.st.below (below_drewN (Ze _ _) nq));generalize wr.drewN nq=w3 at *;have hw3:=hid (HW.out.bl.trans (HS3.out.bl.mono HW.out.bl.size));have gA0:=(hw3.out.cell (p:=⟨bA,oA,none⟩) hbA).trans fA0;have hbA4:=Zb hbA hw3.out.size;have gB0:=(hw3.out.cell (p:=⟨bB,oB,none⟩) hbB).trans fB0;have hbB4:=Zb hbB hw3.out.size
      go_upto_region 9 with fail
      go_quiet (fail)
      have HS3:=hid (HS3.out.below (below_drewN (Ze _ _) nq));generalize w3.drewN nq=w3' at *;clear hw3;have hw3:=hid (HW.out.bl.trans (HS3.out.bl.mono HW.out.bl.size))
      go_upto_region 4 with fail
      have HM10:Hid (∀X,Below w3'.heap.size w3' X->Calls Tryz.prog 134 #[.agg #[.bool (zc z).neg,.slice zn (zc z).num.length zcn,.slice zd (zc z).den.length zcd],.agg #[.bool (zc k).neg,.slice kn (zc k).num.length kcn,.slice kd (zc k).den.length kcd]] X (zcj X (zc (z*k)))):=fun X hb=>by
       exact Tf
      have HA15:Hid (∀X,Below w3'.heap.size w3' X->∀x,RatV X x (zc (z*k))->Calls Tryz.prog 133 #[.agg #[.bool (zc p).neg,.slice pn (zc p).num.length pcn,.slice pd (zc p).den.length pcd],x] X (zcj X (zc (p+z*k)))):=fun X hb x hx=>by
       have hb2:=hw3.out.trans (hb.mono hw3.out.size);have h:=zt9 (HVA.out.below hb2) hx (HLe.out.lft _ (HI.out.mA _ Zal)) (HLe.out.lgtk _ (HI.out.mB _ Zal));exact T9
      refine zj 16 Yb Yb Yb Yb Yd (zbZ w3'.heap.size w3') (fun w w'=>Below w.heap.size w w') (GQ [.val (.agg #[.slice ao no co,.bool (zc qc).neg,.slice rn (zc qc).num.length rcn,.slice rd (zc qc).den.length rcd]),.val (.slice (some ⟨bA,oA,none⟩) nA cA),.val (.pointer (some ⟨bA,oA,none⟩)),.val (.pointer (some ⟨bA,oA,none⟩)),.val (.int .i64 (u:Int)),.val (.slice (some ⟨bA,oA,none⟩) nA cA),.val (.pointer (some ⟨bA,oA,none⟩)),.val (.pointer (some ⟨bA,oA+1,none⟩)),.val (.agg #[.bool (zc p).neg,.slice pn (zc p).num.length pcn,.slice pd (zc p).den.length pcd]),.val (.slice (some ⟨bB,oB,none⟩) nB cB),.val (.pointer (some ⟨bB,oB,none⟩)),.val (.pointer (some ⟨bB,oB+1,none⟩)),.val (.agg #[.bool (zc z).neg,.slice zn (zc z).num.length zcn,.slice zd (zc z).den.length zcd]),.val (.agg #[.bool (zc k).neg,.slice kn (zc k).num.length kcn,.slice kd (zc k).den.length kcd]),.rat (z*k),.rat (p+z*k)]) (fun i v w w' h hb=>zaV h hb) (zbZ.start (Za _)) ?_ ?_
      ·intro ops;simp only[Zo,Zw,zbR]
       refine⟨?v0,?v1,?v2,?v3,?v4,?v5,?v6,?v7,?v8,?v9,?v10,?v11,?v12,?v13,?_,?_,trivial⟩
       all_goals (intro y X hR hL;have hB:=hR.base;have HSW:=hid (HS3.out.below hR.be);obtain⟨x0,x1,x2,x3,xf,xlt⟩:=HSW.out.ob;have hwW:=htr hw3 hR.be;have dA0:=(hwW.out.cell (p:=⟨bA,oA,none⟩) hbA).trans fA0;have dA1:=(hwW.out.cell (p:=⟨bA,oA+1,none⟩) hbA).trans fA1;have dA2:=(hwW.out.cell (p:=⟨bA,oA+2,none⟩) hbA).trans fA2;have dA3:=(hwW.out.cell (p:=⟨bA,oA+3,none⟩) hbA).trans fA3;have hbA3:=Zb hbA hwW.out.size;have dB0:=(hwW.out.cell (p:=⟨bB,oB,none⟩) hbB).trans fB0;have dB1:=(hwW.out.cell (p:=⟨bB,oB+1,none⟩) hbB).trans fB1;have dB2:=(hwW.out.cell (p:=⟨bB,oB+2,none⟩) hbB).trans fB2;have dB3:=(hwW.out.cell (p:=⟨bB,oB+3,none⟩) hbB).trans fB3;have hbB3:=Zb hbB hwW.out.size;obtain⟨k0,k1,k2,_,kt⟩:=(HW.out.below HSW.out.bl).cb;simp only[zdt,Region.binds,ZB,Zn,Zx,GQ,Zf,Zc]at hL;simp[ze,Act.put])
       case v0|v1|v2|v3|v4|v5|v6|v7|v8|v9|v10|v11|v12|v13=>
        exact Ut
       ·exact OA
       ·generalize y 8=y8 at hL⊢;generalize y 14=y14 at hL⊢;obtain⟨rfl,H14,_,_⟩:=hL;obtain⟨K14,HR⟩:=hd2 H14 hR;clear hR H14;have HCt:=hid (HA15.out X HR.out.be _ K14.out);exact Um
      ·intro ops y X hR hL;have hB:=hR.base;have J0:=hL.1.1.1.1.1.1.1.1.1.1.1.1.1.1.1.2;have J4:=hL.1.1.1.1.1.1.1.1.1.1.1.2;have J15:=hL.2;simp only[GQ,Zf,Zc]at J0 J4 J15;have HSW:=hid (HS3.out.below hR.be);obtain⟨x0,x1,x2,x3,xf,xlt⟩:=HSW.out.ob;have hwW:=htr hw3 hR.be;have dA0:=(hwW.out.cell (p:=⟨bA,oA,none⟩) hbA).trans fA0;have dA1:=(hwW.out.cell (p:=⟨bA,oA+1,none⟩) hbA).trans fA1;have dA2:=(hwW.out.cell (p:=⟨bA,oA+2,none⟩) hbA).trans fA2;have dA3:=(hwW.out.cell (p:=⟨bA,oA+3,none⟩) hbA).trans fA3;have hbA3:=Zb hbA hwW.out.size;have dB0:=(hwW.out.cell (p:=⟨bB,oB,none⟩) hbB).trans fB0;have dB1:=(hwW.out.cell (p:=⟨bB,oB+1,none⟩) hbB).trans fB1;have dB2:=(hwW.out.cell (p:=⟨bB,oB+2,none⟩) hbB).trans fB2;have dB3:=(hwW.out.cell (p:=⟨bB,oB+3,none⟩) hbB).trans fB3;have hbB3:=Zb hbB hwW.out.size;obtain⟨k0,k1,k2,_,kt⟩:=(HW.out.below HSW.out.bl).cb;clear hL;simp only[Zo,Zw,ZG,ZO];simp[ze,Act.put];generalize y 0=y0 at J0⊢;obtain rfl:=J0;generalize y 4=y4 at J4⊢;obtain rfl:=J4;generalize y 15=y15 at J15⊢;have HR:=hid hR;clear hR;have HZ:=hid J15;have hfew:=HI.out.few;have HPut:=hid (zsb (b0:=(zc qc).neg) (an:=rn) (ad:=rd) (nn:=(zc qc).num.length) (cn:=rcn) (nd:=(zc qc).den.length) (cd:=rcd) (v:=u) HSW.out.own HI.out.lo' HSW.out.le HZ.out (zD.mono (HLe.out.lsum _ (HI.out.mA _ Zal) _ (HI.out.mB _ Zal)) Ya) Ya);clear hfew x0 x1 x2 x3 xf xlt
       go_wp2_with fail
       refine HPut.out.mono ?_
       rintro ee w5 ⟨a5,c5,rfl,ho5,hb5⟩;obtain⟨HS5,HL5⟩:=hd2 (HSW.out.put ho5 hb5) (zc3 out u (p+z*k));obtain⟨x0,x1,x2,x3,xf,xlt⟩:=HSW.out.ob.belowB hb5 HSW.out.lt;clear ho5 hb5 HPut;have HT5:=hid (rfl:zcs out u (p+z*k)=zcs out u (p+z*k));generalize hn5:(zcs out u (p+z*k)).length=n5 at *;have Hn5:=hid hn5;clear hn5
       go_upto_region 5 with fail
       generalize((((w5.setCell ⟨b,0,none⟩ (.slice a5 n5 c5)).setCell ⟨b,1,none⟩ (.bool (zc qc).neg)).setCell ⟨b,2,none⟩ (.slice rn (zc qc).num.length rcn)).setCell ⟨b,3,none⟩ (.slice rd (zc qc).den.length rcd))=w6 at *;clear x0 x1 x2 x3 xf xlt
       by_cases h1:1<cA
       ·by_cases h2:1<cB
        ·go_quiet (fail)
         have HS6:=hid (HS5.out.below (below_drewN (Ze _ _) nq));generalize w6.drewN nq=w7 at *;go_wp2;exact⟨⟨A',B',zcs out u (p+z*k),_,_,a5,nA-1,cA-1,nB-1,cB-1,n5,c5,u+1,rfl,rfl,HI.out.both HS6.out Hn5.out XD XE⟩,Yz⟩
        ·go_quiet (fail)
         have HS6:=hid (HS5.out.below (below_drewN (Ze _ _) nq));generalize w6.drewN nq=w7 at *;go_wp2;exact⟨⟨A',B',zcs out u (p+z*k),_,_,a5,nA-1,cA-1,nB-1,cB-1,n5,c5,u+1,rfl,rfl,HI.out.both HS6.out Hn5.out XD (HI.out.emptyB h2)⟩,Yz⟩
       ·by_cases h2:1<cB
        ·go_quiet (fail)
         have HS6:=hid (HS5.out.below (below_drewN (Ze _ _) nq));generalize w6.drewN nq=w7 at *;go_wp2;exact⟨⟨A',B',zcs out u (p+z*k),_,_,a5,nA-1,cA-1,nB-1,cB-1,n5,c5,u+1,rfl,rfl,HI.out.both HS6.out Hn5.out (HI.out.emptyA h1) XE⟩,Yz⟩
        ·go_quiet (fail)
         have HS6:=hid (HS5.out.below (below_drewN (Ze _ _) nq));generalize w6.drewN nq=w7 at *;go_wp2;exact⟨⟨A',B',zcs out u (p+z*k),_,_,a5,nA-1,cA-1,nB-1,cB-1,n5,c5,u+1,rfl,rfl,HI.out.both HS6.out Hn5.out (HI.out.emptyA h1) (HI.out.emptyB h2)⟩,Yz⟩
     ·have tq:decide ((u:Int)<(v:Int))=false:=Zj Ya;have tq2:decide ((v:Int)<(u:Int))=true:=Zk Ya;have tq':decide (u<v)=false:=Zj Ya;have tq2':decide (v<u)=true:=Zk Ya;have cl0:=HI.out.cA';have cl1:=HI.out.cB'
      go_upto_region 6 with fail
      go_quiet (fail)
      have HS3:=hid (HI.out.st.below (below_drewN (Ze _ _) nq));generalize wr.drewN nq=w3 at *;have hw3:=hid (HW.out.bl.trans (HS3.out.bl.mono HW.out.bl.size));have gA0:=(hw3.out.cell (p:=⟨bA,oA,none⟩) hbA).trans fA0;have hbA4:=Zb hbA hw3.out.size;have gB0:=(hw3.out.cell (p:=⟨bB,oB,none⟩) hbB).trans fB0;have hbB4:=Zb hbB hw3.out.size
      go_upto_region 9 with fail
      go_quiet (fail)
      have HS3:=hid (HS3.out.below (below_drewN (Ze _ _) nq));generalize w3.drewN nq=w3' at *;clear hw3;have hw3:=hid (HW.out.bl.trans (HS3.out.bl.mono HW.out.bl.size))
      go_upto_region 10 with fail
      have HM10:Hid (∀X,Below w3'.heap.size w3' X->Calls Tryz.prog 134 #[.agg #[.bool (zc z).neg,.slice zn (zc z).num.length zcn,.slice zd (zc z).den.length zcd],.agg #[.bool (zc k).neg,.slice kn (zc k).num.length kcn,.slice kd (zc k).den.length kcd]] X (zcj X (zc (z*k)))):=fun X hb=>by
       exact Tf
      refine zj 11 Yb Yb Yb Yb Yd (zbZ w3'.heap.size w3') (fun w w'=>Below w.heap.size w w') (GQ [.val (.agg #[.slice ao no co,.bool (zc qc).neg,.slice rn (zc qc).num.length rcn,.slice rd (zc qc).den.length rcd]),.val (.slice (some ⟨bB,oB,none⟩) nB cB),.val (.pointer (some ⟨bB,oB,none⟩)),.val (.pointer (some ⟨bB,oB,none⟩)),.val (.int .i64 (v:Int)),.val (.slice (some ⟨bB,oB,none⟩) nB cB),.val (.pointer (some ⟨bB,oB,none⟩)),.val (.pointer (some ⟨bB,oB+1,none⟩)),.val (.agg #[.bool (zc z).neg,.slice zn (zc z).num.length zcn,.slice zd (zc z).den.length zcd]),.val (.agg #[.bool (zc k).neg,.slice kn (zc k).num.length kcn,.slice kd (zc k).den.length kcd]),.rat (z*k)]) (fun i v w w' h hb=>zaV h hb) (zbZ.start (Za _)) ?_ ?_
      ·exact IV
      ·intro ops y X hR hL;have hB:=hR.base;have J0:=hL.1.1.1.1.1.1.1.1.1.1.2;have J4:=hL.1.1.1.1.1.1.2;have J10:=hL.2;simp only[GQ,Zf,Zc]at J0 J4 J10;have HSW:=hid (HS3.out.below hR.be);obtain⟨x0,x1,x2,x3,xf,xlt⟩:=HSW.out.ob;have hwW:=htr hw3 hR.be;have dB0:=(hwW.out.cell (p:=⟨bB,oB,none⟩) hbB).trans fB0;have dB1:=(hwW.out.cell (p:=⟨bB,oB+1,none⟩) hbB).trans fB1;have dB2:=(hwW.out.cell (p:=⟨bB,oB+2,none⟩) hbB).trans fB2;have dB3:=(hwW.out.cell (p:=⟨bB,oB+3,none⟩) hbB).trans fB3;have hbB3:=Zb hbB hwW.out.size;obtain⟨k0,k1,k2,_,kt⟩:=(HW.out.below HSW.out.bl).cb;clear hL;simp only[Zo,Zw,ZG,ZO];simp[ze,Act.put];generalize y 0=y0 at J0⊢;obtain rfl:=J0;generalize y 4=y4 at J4⊢;obtain rfl:=J4;generalize y 10=y10 at J10⊢;have HR:=hid hR;clear hR;have HZ:=hid J10;have hfew:=HI.out.few;have HPut:=hid (zsb (b0:=(zc qc).neg) (an:=rn) (ad:=rd) (nn:=(zc qc).num.length) (cn:=rcn) (nd:=(zc qc).den.length) (cd:=rcd) (v:=v) HSW.out.own HI.out.lo' HSW.out.le HZ.out (zD.mono (HLe.out.lgtk _ (HI.out.mB _ Zal)) Ya) Ya);clear hfew x0 x1 x2 x3 xf xlt
       go_wp2_with fail
       refine HPut.out.mono ?_
       rintro ee w5 ⟨a5,c5,rfl,ho5,hb5⟩;obtain⟨HS5,HL5⟩:=hd2 (HSW.out.put ho5 hb5) (zc3 out v (z*k));obtain⟨x0,x1,x2,x3,xf,xlt⟩:=HSW.out.ob.belowB hb5 HSW.out.lt;clear ho5 hb5 HPut;have HT5:=hid (rfl:zcs out v (z*k)=zcs out v (z*k));generalize hn5:(zcs out v (z*k)).length=n5 at *;have Hn5:=hid hn5;clear hn5
       go_upto_region 11 with fail
       generalize((((w5.setCell ⟨b,0,none⟩ (.slice a5 n5 c5)).setCell ⟨b,1,none⟩ (.bool (zc qc).neg)).setCell ⟨b,2,none⟩ (.slice rn (zc qc).num.length rcn)).setCell ⟨b,3,none⟩ (.slice rd (zc qc).den.length rcd))=w6 at *;clear x0 x1 x2 x3 xf xlt
       by_cases h1:1<cB
       ·go_wp2;exact⟨⟨(u,p)::A',B',zcs out v (z*k),_,_,a5,nA,cA,nB-1,cB-1,n5,c5,v+1,rfl,rfl,HI.out.right HS5.out Hn5.out HRB.out (HI.out.upA hgt)⟩,Yz⟩
       ·go_wp2;exact⟨⟨(u,p)::A',B',zcs out v (z*k),_,_,a5,nA,cA,nB-1,cB-1,n5,c5,v+1,rfl,rfl,HI.out.right HS5.out Hn5.out (HI.out.emptyB h1) (HI.out.upA hgt)⟩,Yz⟩
def zN(x:List Rat)(U:List zl):List Rat:=U.foldl (fun v f=>v++[zc7 (zK v f) 0]) x
theorem zgW(x:List Rat)(U V:List zl):zN x (U++V)=zN (zN x U) V:=List.foldl_append ..
theorem zfx(x:List Rat)(U:List zl)(f:zl):zN x (U++[f])=zN x U++[zc7 (zK (zN x U) f) 0]:=by rw[zgW];rfl
theorem zd4:∀(V:List zl) (x:List Rat),∃z,zN x V=x++z
 | [],x=>⟨[],by show x=_;rw[ZaK]⟩
 | f::r,x=>by
  obtain⟨z,h⟩:=zd4 r (x++[zc7 (zK x f) 0]);exact⟨zc7 (zK x f) 0::z,by show zN (x++[zc7 (zK x f) 0]) r=_;rw[h,ZW];rfl⟩
theorem zdm:∀(V:List zl) (x:List Rat),(zN x V).length=x.length+V.length
 | [],_=>rfl
 | f::r,x=>by
  show(zN (x++[zc7 (zK x f) 0]) r).length=_
  rw[zdm r];simp;omega
def zfn(n:Nat)(f:zl):Prop:=zcM f.ts<=n
theorem znv(fn:Nat->Rat):∀(n lo:Nat),zcM (ofC fn lo n)<=lo+n
 | 0,_=>Zs _
 | n+1,lo=>by
  show zcM (if fn lo=0 then ofC fn (lo+1) n else(lo,fn lo)::ofC fn (lo+1) n)<=_
  have:=znv fn n (lo+1)
  split
  ·omega
  ·show max (lo+1) (zcM (ofC fn (lo+1) n))<=_
   omega
theorem zcJ{g:zl}(hf:zfn n f)(hg:zfn n g):zfn n (zbi k f g):=by
 unfold zfn at *;have:=znv (fun v=>zM f.ts v+k*zM g.ts v) (max (zcM f.ts) (zcM g.ts)) 0;show zcM (ofC _ 0 _)<=n
 omega
theorem zfN(n:Nat):zfn n zcB:=Zs _
theorem zn7(n:Nat)(q:Rat):zfn n (zoP q):=Zs _
theorem zin(h:v<n):zfn n (zbv v):=by show max (v+1) 0<=n;omega
theorem zfn.mono(h:zfn n f)(hm:n<=m):zfn m f:=Zi h hm
theorem zjs{a b:List Rat}:∀{l:List (Nat×Rat)},(∀v,v<zcM l->a.getD v 0=b.getD v 0)->zds a l=zds b l
 | [],_=>rfl
 | (u,q)::r,h=>by
  have ht:zcM ((u,q)::r)=max (u+1) (zcM r):=rfl;show q*a.getD u 0+zds a r=q*b.getD u 0+zds b r
  rw[h u Ya,zjs (fun v hv=>h v Ya)]
theorem zn1{a z:List Rat}(h:zfn a.length f):zK (a++z) f=zK a f:=by
 unfold zK;rw[zjs (a:=a++z) (b:=a) (fun v hv=>?_)];have:v<a.length:=Zb hv h;rw[Zd,Zz this,Zd]
theorem zgE(v:List Rat):zK v zcB=0:=by show(0:Rat)+0=0;rw[Za5]
theorem zk0(v:List Rat)(k:Rat)(hf:f.Can):zK v (scA k f)=k*zK v f:=by
 unfold scA;rw[zcl v k zel hf,zgE,Za4]
def zbk(n:Nat)(x:List zl):Prop:=∀f∈x,f.Can/\zfn n f
theorem zbk.at{n:Nat}{x:List zl}(h:zbk n x)(k:Nat):(x.getD k zcB).Can/\zfn n (x.getD k zcB):=by
 rw[Zd]
 cases e:x[k]? with
 | none=>exact⟨zel,zfN n⟩
 | some f=>exact h f (Zq e)
theorem zbk.mono(h:zbk n x)(hm:n<=m):zbk m x:=fun f hf=>⟨(h f hf).1,(h f hf).2.mono hm⟩
theorem zdE(v:List Rat)(x:List zl)(k:Nat):(x.map (zK v)).getD k 0=zK v (x.getD k zcB):=by
 rw[Zd,ZN,Zd]
 cases x[k]? with
 | none=>exact(zgE v).symm
 | some f=>rfl
theorem zfa{n:Nat}{b:Rat}{ws:List Rat}{off:Nat}{ix:List Int}{x:List zl}(h:zbk n x):∀k,(zdq b ws off ix x k).Can/\zfn n (zdq b ws off ix x k)
 | 0=>⟨zkP b,zn7 n b⟩
 | k+1=>by
  show(if 0<=ix.getD k 0 then zbi 1 (zdq b ws off ix x k) (scA (ws.getD (off+k) 0) (x.getD (ix.getD k 0).toNat zcB))else zdq b ws off ix x k).Can/\zfn n (if 0<=ix.getD k 0 then zbi 1 (zdq b ws off ix x k) (scA (ws.getD (off+k) 0) (x.getD (ix.getD k 0).toNat zcB))else zdq b ws off ix x k)
  have ih:=zfa (b:=b) (ws:=ws) (off:=off) (ix:=ix) h k
  split
  ·exact⟨zbf _ _ _,zcJ ih.2 (zcJ (zfN n) (h.at _).2)⟩
  ·exact ih
theorem zgH{n:Nat}(v:List Rat){b:Rat}{ws:List Rat}{off:Nat}{ix:List Int}{x:List zl}(h:zbk n x):∀k,zK v (zdq b ws off ix x k)=zgc b ws off ix (x.map (zK v)) k
 | 0=>znO v b
 | k+1=>by
  have ih:=zgH (n:=n) v (b:=b) (ws:=ws) (off:=off) (ix:=ix) h k;show zK v (if 0<=ix.getD k 0 then _ else _)=zgc b ws off ix (x.map (zK v)) k+zht ws off ix (x.map (zK v)) k
  unfold zht
  split
  ·rw[zcl v 1 (zfa h k).1 (show(scA _ _).Can from zbf _ _ _),zk0 v _ (h.at _).1,ih,zdE,Zbn]
  ·rw[ih,Za5]
theorem zek{n:Nat}{x:List zl}(h:zbk n x):∀k,(zhw x k).Can/\zfn n (zhw x k)
 | 0=>⟨zel,zfN n⟩
 | k+1=>⟨zbf _ _ _,zcJ (zek h k).2 (h.at k).2⟩
theorem zhO{n:Nat}(v:List Rat){x:List zl}(h:zbk n x):∀k,zK v (zhw x (k+1))=zjI (x.map (zK v)) k
 | 0=>by
  show zK v (zbi 1 zcB (x.getD 0 zcB))=(x.map (zK v)).getD 0 0
  rw[zcl v 1 zel (h.at 0).1,zgE,zdE,Za4,Zbn]
 | k+1=>by
  show zK v (zbi 1 (zhw x (k+1)) (x.getD (k+1) zcB))=zjI (x.map (zK v)) k+(x.map (zK v)).getD (k+1) 0
  rw[zcl v 1 (zek h _).1 (h.at _).1,zhO v h k,zdE,Zbn]
theorem zlJ(h:zbk n x):(zfP x).Can/\zfn n (zfP x):=⟨zbf _ _ _,zcJ (zfN n) (zek h _).2⟩
theorem zlE(v:List Rat)(h:zbk n x)(hl:1<=x.length):zK v (zfP x)=zf0 (x.map (zK v)):=by
 unfold zfP zf0;rw[zk0 v _ (zek h _).1];obtain⟨k,hk⟩:∃k,x.length=k+1:=⟨x.length-1,Ya⟩
 rw[hk,zhO v h k,Zv,hk,ZaA];generalize(((k+1:Nat):Int):Rat)=q;generalize zjI (x.map (zK v)) k=s
 grind
theorem zl8(a b c:Rat):zc7 (zc7 a b) c=zc7 a (zc7 b c):=by
 unfold zc7
 grind
theorem zdF(a b:Rat):b+ -1*a=b-a:=by grind
theorem zph(a b:Rat):a+zc7 (b-a) 0=zc7 a b:=by
 unfold zc7
 split<;>split<;>grind
theorem zjq(p q:List Rat):∀k,k<p.length->zhk (p++q) k=zhk p k
 | 0,h=>by
  show(p++q).getD 0 0=p.getD 0 0
  rw[Zd,Zz h,Zd]
 | k+1,h=>by
  show zc7 (zhk (p++q) k) ((p++q).getD (k+1) 0)=zc7 (zhk p k) (p.getD (k+1) 0)
  rw[zjq p q k Ya,Zd,Zz h,Zd]
theorem zhK(p q:List Rat)(hp:1<=p.length):∀k,zhk (p++q) (p.length+k)=zc7 (zdV p) (zhk q k)
 | 0=>by
  obtain⟨j,hj⟩:∃j,p.length=j+1:=⟨p.length-1,Ya⟩
  rw[ZU,hj];show zc7 (zhk (p++q) j) ((p++q).getD (j+1) 0)=zc7 (zdV p) (q.getD 0 0)
  rw[zjq p q j Ya,Zd,ZI Ya,<- hj,Nat.sub_self,Zd];unfold zdV;rw[hj,ZaA]
 | k+1=>by
  show zc7 (zhk (p++q) (p.length+k)) ((p++q).getD (p.length+k+1) 0)=zc7 (zdV p) (zc7 (zhk q k) (q.getD (k+1) 0))
  rw[zhK p q hp k,zl8,Zd,ZI Ya,Zd,show p.length+k+1-p.length=k+1 from Ya]
theorem zpO{p q:List Rat}(hp:1<=p.length)(hq:1<=q.length):zdV (p++q)=zc7 (zdV p) (zdV q):=by
 have e:(p++q).length-1=p.length+(q.length-1):=by rw[ZE];omega
 rw[zdV,e,zhK p q hp];rfl
def zdA(n:Nat)(U:List zl):Prop:=∀(j:Nat) (f:zl),U[j]? =some f->f.Can/\zfn (n+j) f
theorem zdA.nil(n:Nat):zdA n []:=fun j f h=>by simp at h
theorem zdA.snoc(h:zdA n U)(h1:f.Can)(h2:zfn (n+U.length) f):zdA n (U++[f]):=by
 intro j g hg
 by_cases hj:j<U.length
 ·rw[Zz hj]at hg;exact h j g hg
 ·have hlt:=(Zr.1 hg).1;rw[ZE]at hlt;simp at hlt;obtain rfl:j=U.length:=Ya;have:g=f:=by simpa using hg.symm
  subst this;exact⟨h1,h2⟩
theorem zcK{x:List Rat}(h:zfn (x.length+U.length) f):zK (zN x (U++V)) f=zK (zN x U) f:=by
 rw[zgW];obtain⟨z,hz⟩:=zd4 V (zN x U);rw[hz];exact zn1 (by rw[zdm];exact h)
theorem ze5{x:List Rat}{l:List zl}(h:zbk (x.length+U.length) l):l.map (zK (zN x (U++V)))=l.map (zK (zN x U)):=
 ZaJ fun f hf=>zcK (h f hf).2
theorem zjG(x:List Rat)(U:List zl)(f:zl):zK (zN x (U++[f])) (zbv (x.length+U.length))=zc7 (zK (zN x U) f) 0:=by
 rw[zjD,zfx,Zd,ZI (by rw[zdm];omega),zdm,Nat.sub_self];rfl
theorem zeg(x:List Rat):∀(fuel:Nat) (U l:List zl),zdA x.length U->zbk (x.length+U.length) l->1<=l.length->l.length<=fuel->
  zdA x.length (zZ x.length fuel U l).1/\(zZ x.length fuel U l).2.Can/\zfn (x.length+(zZ x.length fuel U l).1.length) (zZ x.length fuel U l).2/\
   zK (zN x (zZ x.length fuel U l).1) (zZ x.length fuel U l).2=zdV (l.map (zK (zN x U)))
 | 0,U,l,_,_,h1,h2=>by omega
 | fuel+1,U,l,hU,hl,h1,h2=>by
  by_cases k:l.length=1
  ·rw[zcA k]
   refine⟨hU,(hl.at 0).1,(hl.at 0).2,?_⟩
   show zK (zN x U) (l.getD 0 zcB)=zdV (l.map (zK (zN x U)))
   rw[<- zdE];unfold zdV;rw[Zv,k];rfl
  ·obtain⟨h,hh⟩:∃h,h=(l.length+1)/2:=⟨_,rfl⟩
   have hlo:1<=h:=Ya;have hhi:h+1<=l.length:=Ya;have lt:(l.take h).length=h:=Yy;have ld:(l.drop h).length=l.length-h:=Za6;obtain⟨a1,a2,a3,a4⟩:=zeg x fuel U (l.take h) hU (fun f hf=>hl f (ZT hf)) Ya Ya;obtain⟨V1,e1⟩:=zaO x.length fuel U (l.take h);obtain⟨p1,hp1⟩:∃p,p=zZ x.length fuel U (l.take h):=⟨_,rfl⟩
   rw[<- hp1]at a1 a2 a3 a4 e1;obtain⟨U1,a⟩:=p1;simp only at a1 a2 a3 a4 e1;have hl2:zbk (x.length+U1.length) (l.drop h):=fun f hf=>⟨(hl f (ZX hf)).1,(hl f (ZX hf)).2.mono VC⟩
   obtain⟨b1,b2,b3,b4⟩:=zeg x fuel U1 (l.drop h) a1 hl2 Ya Ya;obtain⟨V2,e2⟩:=zaO x.length fuel U1 (l.drop h);obtain⟨p2,hp2⟩:∃p,p=zZ x.length fuel U1 (l.drop h):=⟨_,rfl⟩
   rw[<- hp2]at b1 b2 b3 b4 e2;obtain⟨U2,b⟩:=p2;simp only at b1 b2 b3 b4 e2;rw[zb6 (U1:=U1) (U2:=U2) (a:=a) (b:=b) Ya JH JI];have a3':zfn (x.length+U2.length) a:=a3.mono VD;have hs:zfn (x.length+U2.length) (zbi (-1) b a):=zcJ b3 a3'
   refine⟨b1.snoc (zbf _ _ _) hs,zbf _ _ _,?_,?_⟩
   ·rw[ZE];exact zcJ (a3'.mono Yc) (zin Yc)
   ·show zK (zN x (U2++[zbi (-1) b a])) (zbi 1 a (zbv (x.length+U2.length)))=_
    have ea:zK (zN x U2) a=zdV ((l.take h).map (zK (zN x U))):=by
     rw[e2,zcK a3];exact a4
    have eb:zK (zN x U2) b=zdV ((l.drop h).map (zK (zN x U))):=by
     rw[b4,e1]
     congr 1
     exact ze5 (fun f hf=>hl f (ZX hf))
    rw[zcl _ 1 a2 (zff _),zjG,zcK a3',zcl _ (-1) b2 a2,ea,eb,Zbn];have hm:l.map (zK (zN x U))=(l.take h).map (zK (zN x U))++(l.drop h).map (zK (zN x U)):=by rw[<- Zay,List.take_append_drop]
    rw[hm,zpO Yl Yl,zdF];exact zph _ _
structure ztH (x:List Rat) (U U':List zl) (y:zl) (q:Rat):Prop where
 good:zdA x.length U'
 more:∃V,U'=U++V
 can:y.Can
 bnd:zfn (x.length+U'.length) y
 val:zK (zN x U') y=q
theorem zio{β:Type}{x:List Rat}{U0:List zl}{f:List zl->β->List zl×zl}{val:β->Rat}:∀(l:List β) (U:List zl),(∀b∈l,∀U,(∃W,U=U0++W)->zdA x.length U->ztH x U (f U b).1 (f U b).2 (val b))->
  (∃W,U=U0++W)->zdA x.length U->zdA x.length (z7 f l U).1/\(∃V,(z7 f l U).1=U++V)/\zbk (x.length+(z7 f l U).1.length) (z7 f l U).2/\(z7 f l U).2.map (zK (zN x (z7 f l U).1))=l.map val
 | [],U,_,_,hU=>⟨hU,⟨[],KK⟩,(fun f hf=>by cases hf),rfl⟩
 | b::r,U,hs,⟨W,hW⟩,hU=>by
  have h:=hs b Yc U ⟨W,hW⟩ hU;obtain⟨V1,e1⟩:=h.more;have hr:=zio r (f U b).1 (fun b' hb'=>hs b' (by simp[hb'])) ⟨W++V1,by rw[e1,hW,ZW]⟩ h.good;obtain⟨g1,⟨V2,e2⟩,g3,g4⟩:=hr
  refine⟨g1,⟨V1++V2,YT⟩,?_,?_⟩
  ·intro y hy
   rcases Za7.1 hy with e|e
   ·subst e;exact⟨h.can,h.bnd.mono (by show _<=x.length+(z7 f r (f U b).1).1.length;rw[e2,ZE];omega)⟩
   ·exact g3 y e
  ·show zK (zN x (z7 f r (f U b).1).1) (f U b).2::(z7 f r (f U b).1).2.map (zK (zN x (z7 f r (f U b).1).1))=val b::r.map val
   rw[g4]
   congr 1
   rw[e2,zcK h.bnd];exact h.val
theorem zjN(f:List Rat->Rat)(C n:Nat)(win:List (List Int))(x:List Rat):zfs f C n win x=(zcH C n win).map fun g=>f (zau g x):=by
 unfold zfs zcH;rw[List.map_flatMap]
 congr 1
 funext ch
 rw[Zbu];rfl
theorem ziO(v:List Rat)(g:List Int)(X:List zl):(zba g X).map (zK v)=zau g (X.map (zK v)):=by
 unfold zba zau;rw[Zbu];exact ZaJ fun i _=>(zdE v X i.toNat).symm
theorem zfl{X:List zl}(h:zbk n X)(g:List Int):zbk n (zba g X):=by
 intro f hf;obtain⟨i,_,rfl⟩:=ZP.1 hf;exact h.at _
theorem zaP(g:List Int)(X:List zl):(zba g X).length=g.length:=by simp[zba]
theorem zej{q:Win}(hC:C=q.C)(hn:n=q.kh*q.kw):∀g∈zcH C n q.all,g.length=n:=by
 intro g hg;unfold zcH at hg;obtain⟨ch,hch,hg⟩:=Za3.1 hg;obtain⟨i,hi,rfl⟩:=ZP.1 hg;have hch:=Z5.1 hch;have hi:=Z5.1 hi;have hl:(q.all.getD i []).length=q.C*(q.kh*q.kw):=by
  rw[Zd,Zh hi];exact q.all_one_len' _ (Z1 hi)
 refine zbK ?_
 rw[hl,<- hn,<- hC];have:=Zl n (Nat.succ_le_of_lt hch);rw[Zac]at this;exact this
theorem zjA{x:List Rat}{U:List zl}{l:zac}{s:List Int}{X fr:List zl}(hU:zdA x.length U)(hX:zbk (x.length+U.length) X)(hF:zbk (x.length+U.length) fr)(hf:zqK l s):
  zdA x.length (z8 x.length U l s X fr).1/\(∃V,(z8 x.length U l s X fr).1=U++V)/\zbk (x.length+(z8 x.length U l s X fr).1.length) (z8 x.length U l s X fr).2/\
   (z8 x.length U l s X fr).2.map (zK (zN x (z8 x.length U l s X fr).1))=zgx l s (X.map (zK (zN x U))) (fr.map (zK (zN x U))):=by
 have here:∀(Z:List zl) (q:List Rat),zbk (x.length+U.length) Z->Z.map (zK (zN x U))=q->zdA x.length (U,Z).1/\(∃V,(U,Z).1=U++V)/\zbk (x.length+(U,Z).1.length) (U,Z).2/\(U,Z).2.map (zK (zN x (U,Z).1))=q:=
  fun Z q h1 h2=>⟨hU,⟨[],XK⟩,h1,h2⟩
 unfold z8 zgx
 by_cases k1:l.kind=1
 ·rw[Zm k1,Zm k1]
  refine here _ _ (fun f hf=>?_) ?_
  ·obtain⟨r,_,rfl⟩:=ZP.1 hf;exact zfa hX _
  ·unfold zdg;rw[Zbu]
   refine ZaJ fun r _=>?_
   show zK (zN x U) (zdq _ _ _ _ _ _)=zeL _ _ _ r
   rw[zgH (zN x U) hX];unfold zeL zqD;rw[zbJ,Zv]
 rw[Zg k1,Zg k1]
 by_cases k2:l.kind=2
 ·rw[Zm k2,Zm k2]
  refine here _ _ (fun f hf=>?_) ?_
  ·obtain⟨o,_,hf⟩:=Za3.1 hf;obtain⟨i,_,rfl⟩:=ZP.1 hf;exact zfa hX _
  ·unfold zkl;rw[List.map_flatMap]
   congr 1
   funext o
   rw[Zbu]
   refine ZaJ fun i _=>?_
   show zK (zN x U) (zdq _ _ _ _ _ _)=zda _ _ _ _ _ o i
   rw[zgH (zN x U) hX];rfl
 rw[Zg k2,Zg k2]
 by_cases k3:l.kind=3
 ·rw[Zm k3,Zm k3]
  cases hf with
  | pool q hk hq ht hs e1 e2 e3 e4 hp hwl hz=>
   rw[hwl,zjN];have hC:(s.getD 0 0).toNat=q.C:=VV;have hn:l.kh.toNat*l.kw.toNat=q.kh*q.kw:=Jj;have hlen:=zej (q:=q) hC hn;have hpos:1<=l.kh.toNat*l.kw.toNat:=XR;have hr:=zio (x:=x) (U0:=U) (f:=fun U g=>zZ x.length g.length U (zba g X)) (val:=fun g=>zdV (zau g (X.map (zK (zN x U))))) (zcH (s.getD 0 0).toNat (l.kh.toNat*l.kw.toNat) q.all) U (fun g hg U' ⟨W,hW⟩ hU'=>by
    have hgl:=hlen g hg;have hX':zbk (x.length+U'.length) X:=hX.mono Xu;obtain⟨a1,a2,a3,a4⟩:=zeg x g.length U' (zba g X) hU' (zfl hX' g) (by rw[zaP];omega) Vr
    refine⟨a1,zaO _ _ _ _,a2,a3,?_⟩
    rw[a4,ziO]
    congr 2
    rw[hW];exact ze5 hX) ⟨[],XK⟩ hU
   exact hr
  | dense R hk=>omega
  | conv q O hk=>omega
  | keep hk=>omega
  | add hk=>omega
 rw[Zg k3,Zg k3]
 by_cases k4:l.kind=4
 ·rw[Zm k4,Zm k4]
  cases hf with
  | pool q hk hq ht hs e1 e2 e3 e4 hp hwl hz=>
   rw[hwl,zjN];have hC:(s.getD 0 0).toNat=q.C:=VV;have hn:l.kh.toNat*l.kw.toNat=q.kh*q.kw:=Jj;have hlen:=zej (q:=q) hC hn;have hpos:1<=l.kh.toNat*l.kw.toNat:=XR
   refine here _ _ (fun f hf=>?_) ?_
   ·obtain⟨g,_,rfl⟩:=ZP.1 hf;exact zlJ (zfl hX g)
   ·rw[Zbu]
    refine ZaJ fun g hg=>?_
    show zK (zN x U) (zfP (zba g X))=_
    rw[zlE (zN x U) (zfl hX g) (by rw[zaP,hlen g hg];exact hpos),ziO]
  | dense R hk=>omega
  | conv q O hk=>omega
  | keep hk=>omega
  | add hk=>omega
 rw[Zg k4,Zg k4]
 by_cases k5:l.kind=5
 ·rw[Zm k5,Zm k5];have hr:=zio (x:=x) (U0:=U) (f:=zcr x.length) (val:=fun f=>zc7 (zK (zN x U) f) 0) X U (fun f hf U' ⟨W,hW⟩ hU'=>by
   have hb:zfn (x.length+U'.length) f:=(hX f hf).2.mono Xu
   refine⟨hU'.snoc (hX f hf).1 hb,⟨[f],rfl⟩,zff _,?_,?_⟩
   ·exact zin (by show _<x.length+(U'++[f]).length;simp)
   ·show zK (zN x (U'++[f])) (zbv (x.length+U'.length))=_
    rw[zjG,hW,zcK (hX f hf).2]) ⟨[],XK⟩ hU
  have e:zmc (X.map (zK (zN x U)))=X.map (fun f=>zc7 (zK (zN x U) f) 0):=by
   unfold zmc;rw[Zbu];rfl
  rw[e];exact hr
 rw[Zg k5,Zg k5]
 by_cases k7:l.kind=7
 ·rw[Zm k7,Zm k7]
  refine here _ _ (fun f hf=>?_) ?_
  ·obtain⟨k,_,rfl⟩:=ZP.1 hf;exact⟨zbf _ _ _,zcJ (hX.at k).2 (hF.at k).2⟩
  ·unfold zna;rw[Zbu,Zv]
   refine ZaJ fun k _=>?_
   show zK (zN x U) (zbi 1 (X.getD k zcB) (fr.getD k zcB))=_
   rw[zcl _ 1 (hX.at k).1 (hF.at k).1,zdE,zdE,Zbn]
 rw[Zg k7,Zg k7];exact here _ _ hX rfl
theorem zhT{T:List (List Int)}{l:zac}{L:List zac}(h:zdQ input S T (l::L)):∃s T',T=s::T'/\zL input S l=(s,0)/\zdQ input (S++[s]) T' L:=TU
theorem zgU{input:List Int}{x:List Rat}{S:List (List Int)}{Y:List (List Rat)}(hl:S.length=Y.length)(hs:∀(j:Nat) (s:List Int) (y:List Rat),S[j]? =some s->Y[j]? =some y->(y.length:Int)=zt s)(h0:(x.length:Int)=zt input):
  ((zbj x Y).length:Int)=zt (zh input S):=by
 unfold zbj zh;rw[Zah,Zah,hl]
 cases hy:Y[Y.length-1]? with
 | none=>
  have hs:S[Y.length-1]? =none:=by
   rw[List.getElem?_eq_none_iff]at hy⊢;omega
  rw[hs];exact h0
 | some y=>
  have hlt:=(Zr.1 hy).1;have hls:Y.length-1<S.length:=by rw[hl];exact hlt
  have hs':S[Y.length-1]? =some (S[Y.length-1]'hls):=Zh hls;rw[hs'];exact hs _ _ _ hs' hy
theorem zjl(n:Nat):zbk n (zq n):=by
 intro f hf;obtain⟨v,hv,rfl⟩:=ZP.1 hf;exact⟨zff v,zin (Z5.1 hv)⟩
theorem zja(x:List Rat)(U:List zl):(zq x.length).map (zK (zN x U))=x:=by
 obtain⟨z,hz⟩:=zd4 U x;unfold zq;rw[Zbu]
 refine List.ext_getElem Yc fun i h1 h2=>?_
 simp only[List.getElem_map,List.getElem_range,Function.comp_apply];rw[zjD,hz,Zd,Zz h2,Zh h2];rfl
structure zhs (x:List Rat) (input:List Int) (S:List (List Int)) (U:List zl) (YF:List (List zl)) (YQ:List (List Rat)):Prop where
 good:zdA x.length U
 gY:∀y∈YF,zbk (x.length+U.length) y
 ev:YF.map (fun y=>y.map (zK (zN x U)))=YQ
 len:S.length=YQ.length
 size:∀(j:Nat) (s:List Int) (y:List Rat),S[j]? =some s->YQ[j]? =some y->(y.length:Int)=zt s
 x0:(x.length:Int)=zt input
theorem zhs.start{x:List Rat}(h:(x.length:Int)=zt input):zhs x input [] [] [] []:=⟨zdA.nil _,Yc,rfl,rfl,Yc,h⟩
theorem zhs.curr{x:List Rat}{input:List Int}{S:List (List Int)}{U:List zl}{YF:List (List zl)}{YQ:List (List Rat)}(h:zhs x input S U YF YQ):
  zbk (x.length+U.length) (zat (zq x.length) YF)/\(zat (zq x.length) YF).map (zK (zN x U))=zbj x YQ:=by
 unfold zat zbj;rw[<- h.ev,List.getLast?_map]
 cases hy:YF.getLast? with
 | none=>exact⟨(zjl _).mono Ya,zja x U⟩
 | some y=>exact⟨h.gY y (ZaY hy),rfl⟩
theorem zhs.frm{x:List Rat}{input:List Int}{S:List (List Int)}{U:List zl}{YF:List (List zl)}{YQ:List (List Rat)}(h:zhs x input S U YF YQ)(f:Int):
  zbk (x.length+U.length) (zaS (zq x.length) YF f)/\(zaS (zq x.length) YF f).map (zK (zN x U))=zbE x YQ f:=by
 unfold zaS zbE
 split
 ·rw[<- h.ev,Zd,Zd,ZN]
  cases hy:YF[f.toNat]? with
  | none=>exact⟨fun g hg=>(by cases hg),rfl⟩
  | some y=>exact⟨h.gY y (Zq hy),rfl⟩
 ·exact⟨(zjl _).mono Ya,zja x U⟩
theorem zhs.step{x:List Rat}{YF:List (List zl)}{YQ:List (List Rat)}{l:zac}(h:zhs x input S U YF YQ)(hl:(zL input S l).2=0):
  zhs x input (S++[(zL input S l).1]) (z8 x.length U l (zh input S) (zat (zq x.length) YF) (zaS (zq x.length) YF l.frm)).1 (YF++[(z8 x.length U l (zh input S) (zat (zq x.length) YF) (zaS (zq x.length) YF l.frm)).2])
   (YQ++[zgx l (zh input S) (zbj x YQ) (zbE x YQ l.frm)]):=by
 obtain⟨c1,c2⟩:=h.curr;obtain⟨f1,f2⟩:=h.frm l.frm;obtain⟨g1,⟨V,hV⟩,g3,g4⟩:=zjA h.good c1 f1 (zev hl).1;rw[c2,f2]at g4
 refine⟨g1,?_,?_,by simp[h.len],?_,h.x0⟩
 ·intro y hy
  rcases Zar.1 hy with e|e
  ·exact(h.gY y e).mono (by rw[hV,ZE];omega)
  ·simp at e;subst e;exact g3
 ·have p1:YF.map (fun y=>y.map (zK (zN x (z8 x.length U l (zh input S) (zat (zq x.length) YF) (zaS (zq x.length) YF l.frm)).1)))=YQ:=by
   rw[<- h.ev]
   refine ZaJ fun y hy=>?_
   rw[hV];exact ze5 (h.gY y hy)
  rw[Zay,p1]
  congr 1
  exact congrArg (fun z=>[z]) g4
 ·intro j s y hs hy
  by_cases hj:j<S.length
  ·exact EN
  ·have hlt:=(Zr.1 hs).1;simp only[ZE,ZH,Zax]at hlt;obtain rfl:j=S.length:=Ya;have e1:s=(zL input S l).1:=by simpa using hs.symm
   rw[h.len]at hy;have e2:y=zgx l (zh input S) (zbj x YQ) (zbE x YQ l.frm):=by simpa using hy.symm
   rw[e1,e2];exact zif hl (zgU h.len h.size h.x0)
theorem zij{x:List Rat}{input:List Int}:∀{L:List zac} {S T:List (List Int)} {U:List zl} {YF:List (List zl)} {YQ:List (List Rat)},zhs x input S U YF YQ->zdQ input S T L->
  zhs x input (S++T) (z6 x.length input (zq x.length) S YF U L).1 (z6 x.length input (zq x.length) S YF U L).2 (zaN input x S YQ L)
 | [],S,T,U,YF,YQ,h,hc=>by
  have:T=[]:=Zy hc.1;subst this;rw[ZaK];exact h
 | l::r,S,T,U,YF,YQ,h,hc=>by
  obtain⟨s,T',rfl,ho,hc'⟩:=zhT hc;have hs:=h.step (l:=l) Jm;have e:(zL input S l).1=s:=Jm;have hr:=zij hs (by rw[e];exact hc');rw[e,ZW]at hr;show zhs x input (S++s::T') (z6 x.length input (zq x.length) (S++[(zL input S l).1]) (YF++[(z8 x.length U l (zh input S) (zat (zq x.length) YF) (zaS (zq x.length) YF l.frm)).2]) (z8 x.length U l (zh input S) (zat (zq x.length) YF) (zaS (zq x.length) YF l.frm)).1 r).1
   (z6 x.length input (zq x.length) (S++[(zL input S l).1]) (YF++[(z8 x.length U l (zh input S) (zat (zq x.length) YF) (zaS (zq x.length) YF l.frm)).2]) (z8 x.length U l (zh input S) (zat (zq x.length) YF) (zaS (zq x.length) YF l.frm)).1 r).2
   (zaN input x (S++[(zL input S l).1]) (YQ++[zgx l (zh input S) (zbj x YQ) (zbE x YQ l.frm)]) r)
  rw[e];exact hr
theorem zhF{m:zec}{x:List Rat}(h:zch m=(G,0))(hx:(x.length:Int)=zt m.input):
  zdA x.length G.units/\zbk (x.length+G.units.length) G.outs/\G.inputs=x.length/\G.outs.map (zK (zN x G.units))=zbj x (zdM m x):=by
 unfold zch at h
 by_cases h0:(zI m).2.2=0
 ·rw[Zm h0]at h
  split at h
  ·simp[zed]at h
  ·obtain⟨T,hc⟩:∃T,zdQ m.input [] T m.layers:=by
    rcases zaA m with⟨_,k⟩|⟨_,⟨T,hc,_⟩|⟨k,_⟩⟩
    ·rw[k]at h0;simp at h0
    ·exact⟨T,hc⟩
    ·omega
   have hn:(zt m.input).toNat=x.length:=Ya;rw[hn]at h;have hG:G=⟨x.length,(z6 x.length m.input (zq x.length) [] [] [] m.layers).1,zat (zq x.length) (z6 x.length m.input (zq x.length) [] [] [] m.layers).2⟩:=by
    have:=congrArg Prod.fst h;exact this.symm
   subst hG;have hI:=zij (zhs.start hx) hc;exact⟨hI.good,hI.curr.1,rfl,hI.curr.2⟩
 ·rw[Zg h0]at h;have:=congrArg Prod.snd h;exact absurd this h0
theorem zax(nI:Nat):∀(fuel:Nat) (U l:List zl),1<=l.length->l.length<=fuel->(zZ nI fuel U l).1.length=U.length+(l.length-1)
 | 0,U,l,h1,h2=>by omega
 | fuel+1,U,l,h1,h2=>by
  by_cases k:l.length=1
  ·rw[zcA k];show U.length=_
   omega
  ·obtain⟨h,hh⟩:∃h,h=(l.length+1)/2:=⟨_,rfl⟩
   have lt:(l.take h).length=h:=Yy;have ld:(l.drop h).length=l.length-h:=Za6;have a:=zax nI fuel U (l.take h) Ya Ya;obtain⟨p1,hp1⟩:∃p,p=zZ nI fuel U (l.take h):=⟨_,rfl⟩
   rw[<- hp1]at a;obtain⟨U1,f1⟩:=p1;have b:=zax nI fuel U1 (l.drop h) Ya Ya;obtain⟨p2,hp2⟩:∃p,p=zZ nI fuel U1 (l.drop h):=⟨_,rfl⟩
   rw[<- hp2]at b;obtain⟨U2,f2⟩:=p2;rw[zb6 (U1:=U1) (U2:=U2) (a:=f1) (b:=f2) Ya JH JI];simp only at a b;show(U2++[zbi (-1) f2 f1]).length=_
   rw[ZE];show U2.length+1=_
   omega
theorem zdX{β:Type}{f:List zl->β->List zl×zl}{k:Nat}:∀(l:List β) (U:List zl),(∀b∈l,∀U,(f U b).1.length=U.length+k)->(z7 f l U).1.length=U.length+k*l.length
 | [],U,_=>by show U.length=_;simp
 | b::r,U,h=>by
  show(z7 f r (f U b).1).1.length=_
  rw[zdX r (f U b).1 (fun b' hb'=>h b' (by simp[hb'])),h b Yc,ZH,Nat.mul_succ];omega
def zjt(l:zac)(n:Int):Int:=if l.kind=5 then n else if l.kind=3 then(l.kh*l.kw-1)*n else 0
theorem zlA{nI:Nat}{U:List zl}{l:zac}{s:List Int}{X fr:List zl}(hf:zqK l s):((z8 nI U l s X fr).1.length:Int)=U.length+zjt l ((z8 nI U l s X fr).2.length:Int):=by
 unfold z8 zjt
 by_cases k1:l.kind=1
 ·rw[Zm k1,Zg Ya,Zg Ya];simp
 rw[Zg k1]
 by_cases k2:l.kind=2
 ·rw[Zm k2,Zg Ya,Zg Ya];simp
 rw[Zg k2]
 by_cases k3:l.kind=3
 ·rw[Zm k3,Zg Ya,Zm k3]
  cases hf with
  | pool q hk hq ht hs e1 e2 e3 e4 hp hwl hz=>
   rw[hwl];have hC:(s.getD 0 0).toNat=q.C:=VV;have hn:l.kh.toNat*l.kw.toNat=q.kh*q.kw:=Jj;have hlen:=zej (q:=q) hC hn;have hpos:1<=l.kh.toNat*l.kw.toNat:=XR;rw[zbI,zdX (k:=l.kh.toNat*l.kw.toNat-1) _ U (fun g hg U'=>by
    have hgl:=hlen g hg;have:=zax nI g.length U' (zba g X) (by rw[zaP];omega) Vr;rw[zaP,hgl]at this;rw[<- hgl]at this⊢;exact this)]
   have e:l.kh*l.kw-1=((l.kh.toNat*l.kw.toNat-1:Nat):Int):=by
    rw[Int.natCast_sub hpos,e1,e2];simp
   rw[e];simp
  | dense R hk=>omega
  | conv q O hk=>omega
  | keep hk=>omega
  | add hk=>omega
 rw[Zg k3]
 by_cases k4:l.kind=4
 ·rw[Zm k4,Zg Ya,Zg k3];simp
 rw[Zg k4]
 by_cases k5:l.kind=5
 ·rw[Zm k5,Zm k5,zbI,zdX (k:=1) X U (fun f _ U'=>by show(U'++[f]).length=_;simp)];simp
 rw[Zg k5,Zg k5,Zg k3]
 split<;>simp
theorem zkb{x:List Rat}{input:List Int}:∀{L:List zac} {S T:List (List Int)} {U:List zl} {YF:List (List zl)} {YQ:List (List Rat)},zhs x input S U YF YQ->zdQ input S T L->
  ((z6 x.length input (zq x.length) S YF U L).1.length:Int)=U.length+zhn L T
 | [],S,T,U,YF,YQ,h,hc=>by
  have:T=[]:=Zy hc.1;subst this;show(U.length:Int)=U.length+0
  omega
 | l::r,S,T,U,YF,YQ,h,hc=>by
  obtain⟨s,T',rfl,ho,hc'⟩:=zhT hc;have hl:(zL input S l).2=0:=Jm;have e:(zL input S l).1=s:=Jm;have hs:=h.step (l:=l) hl;obtain⟨c1,c2⟩:=h.curr;obtain⟨f1,f2⟩:=h.frm l.frm;obtain⟨_,_,_,g4⟩:=zjA h.good c1 f1 (zev hl).1;have hlen:((z8 x.length U l (zh input S) (zat (zq x.length) YF) (zaS (zq x.length) YF l.frm)).2.length:Int)=zt s:=by
   have:=congrArg List.length g4;rw[Zv,c2,f2]at this;rw[this,zif hl (zgU h.len h.size h.x0),e]
  have h1:=zlA (nI:=x.length) (U:=U) (X:=zat (zq x.length) YF) (fr:=zaS (zq x.length) YF l.frm) (zev hl).1;rw[hlen]at h1;have hr:=zkb hs (by rw[e];exact hc');rw[e]at hr;show((z6 x.length input (zq x.length) (S++[(zL input S l).1]) _ _ r).1.length:Int)=U.length+(zjt l (zt s)+zhn r T')
  rw[e,hr,h1];omega
theorem zj0{m:zec}(h:zch m=(G,0)):(G.units.length:Int)=(zlu m).1/\(zlu m).2=0:=by
 unfold zch at h;unfold zlu
 by_cases h0:(zI m).2.2=0
 ·rw[Zm h0]at h⊢
  split at h
  ·simp[zed]at h
  ·obtain⟨T,hc,hT⟩:∃T,zdQ m.input [] T m.layers/\(zI m).1=T:=by
    rcases zaA m with⟨_,k⟩|⟨_,⟨T,hc,hT⟩|⟨k,_⟩⟩
    ·rw[k]at h0;simp at h0
    ·exact⟨T,hc,by rw[hT]⟩
    ·omega
   obtain⟨x,hx⟩:∃x:List Rat,x.length=(zt m.input).toNat:=⟨List.replicate _ 0,Zbj ..⟩
   have hsz:(x.length:Int)=zt m.input:=by
    rw[hx];have:0<=zt m.input:=by
     rcases zaA m with⟨_,k⟩|⟨hv,_⟩
     ·rw[k]at h0;simp at h0
     ·unfold zbe at hv;simp only[Zu]at hv;obtain⟨n,e,_⟩:=zp8 hv.1;omega
    omega
   have hG:G=⟨(zt m.input).toNat,(z6 (zt m.input).toNat m.input (zq (zt m.input).toNat) [] [] [] m.layers).1,zat (zq (zt m.input).toNat) (z6 (zt m.input).toNat m.input (zq (zt m.input).toNat) [] [] [] m.layers).2⟩:=(congrArg Prod.fst h).symm;subst hG;rw[<- hx];have hcn:=zkb (zhs.start hsz) hc;show((z6 x.length m.input (zq x.length) [] [] [] m.layers).1.length:Int)=_/\_
   rw[hcn,hT];simp
 exact Im
theorem zlC{nI:Nat}{U:List zl}{l:zac}{s:List Int}{X fr:List zl}:∃V,(z8 nI U l s X fr).1=U++V:=by
 have nil:∀Z:List zl,∃V,(U,Z).1=U++V:=fun Z=>⟨[],XK⟩
 have fold:∀{β:Type} (f:List zl->β->List zl×zl),(∀U b,∃V,(f U b).1=U++V)->∀(L:List β) (U:List zl),∃V,(z7 f L U).1=U++V:=by
  intro β f hf L
  induction L with
  | nil=>exact fun U=>⟨[],KK⟩
  | cons b r ih=>
   intro U;obtain⟨V1,e1⟩:=hf U b;obtain⟨V2,e2⟩:=ih (f U b).1;exact⟨V1++V2,YT⟩
 unfold z8
 split
 ·exact nil _
 ·split
  ·exact nil _
  ·split
   ·exact fold _ (fun U g=>zaO _ _ _ _) _ _
   ·split
    ·exact nil _
    ·split
     ·exact fold _ (fun U f=>⟨[f],rfl⟩) _ _
     ·split
      ·exact nil _
      ·exact nil _
theorem zdx{nI:Nat}{input:List Int}{x:List zl}:∀{L:List zac} {S:List (List Int)} {Y:List (List zl)} {U:List zl},∃V,(z6 nI input x S Y U L).1=U++V
 | [],_,_,U=>⟨[],KK⟩
 | l::L,S,Y,U=>by
  obtain⟨V1,e1⟩:=zlC (nI:=nI) (U:=U) (l:=l) (s:=zh input S) (X:=zat x Y) (fr:=zaS x Y l.frm);obtain⟨V2,e2⟩:=zdx (nI:=nI) (input:=input) (x:=x) (L:=L) (S:=S++[(zL input S l).1]) (Y:=Y++[(z8 nI U l (zh input S) (zat x Y) (zaS x Y l.frm)).2]) (U:=(z8 nI U l (zh input S) (zat x Y) (zaS x Y l.frm)).1);exact⟨V1++V2,by show(z6 nI input x (S++[(zL input S l).1]) _ _ L).1=_;rw[e2,e1,ZW]⟩
def Pay(D B:Nat):Prop:=B*D+D<4294967296^524285
theorem Pay.le{B':Nat}(h:Pay D B)(hD:D'<=D)(hB:B'<=B):Pay D' B':=
 ZaB (Nat.add_le_add (ZY hB hD) hD) h
theorem Pay.bd(h:Pay D B)(hq:Bd D B q):zD (zc q) 1048575:=(hq.le h).mono Yd
theorem zo6.pay{B':Nat}(h:zo6 D B)(hD:D'<=D*WQ)(hB:B'<=9671406556917033397649408*B):Pay D' B':=
 ZaB (Nat.add_le_add (ZY hB hD) hD) h
theorem zeZ:∀{l:List (Nat×Rat)} {lo:Nat} {t:Nat×Rat},zbB l lo->t∈l->lo<=t.1/\zM l t.1=t.2
 | (u,q)::r,lo,t,⟨h1,h2,h3⟩,h=>by
  rcases Za7.1 h with rfl|h
  ·exact⟨h1,Zm rfl⟩
  ·obtain⟨k1,k2⟩:=zeZ h3 h
   refine⟨Ya,?_⟩
   show(if u=t.1 then q else zM r t.1)=t.2
   rw[Zg Ya,k2]
theorem zoq:∀{l:List (Nat×Rat)} {lo:Nat},zbB l lo->l=[]∨lo+l.length<=zcM l
 | [],_,_=>.inl rfl
 | (u,q)::r,lo,⟨h1,_,h3⟩=>by
  refine .inr ?_
  show lo+(r.length+1)<=max (u+1) (zcM r)
  rcases zoq h3 with rfl|h
  ·simp;omega
  ·omega
theorem zrO{l:List (Nat×Rat)}(h:zbB l lo):l.length<=zcM l:=by
 rcases zoq h with rfl|h
 ·exact Zs _
 ·omega
structure BdF (D B N:Nat) (f:zl):Prop where
 can:f.Can
 top:zfn N f
 c:Bd D B f.c
 t:∀v,Bd D B (zM f.ts v)
theorem BdF.mem(h:BdF D B N f){t:Nat×Rat}(ht:t∈f.ts):Bd D B t.2:=by
 have:=h.t t.1;rw[(zeZ h.can ht).2]at this;exact this
theorem BdF.few(h:BdF D B N f):f.ts.length<=N:=Zi (zrO h.can) h.top
theorem BdF.mono{B':Nat}(h:BdF D B N f)(hb:B<=B')(hn:N<=N'):BdF D B' N' f:=⟨h.can,h.top.mono hn,h.c.mono hb,fun v=>(h.t v).mono hb⟩
theorem BdF.bump{k:Nat}(h:BdF D B N f)(hk:0<k):BdF (D*k) B N f:=⟨h.can,h.top,h.c.bump hk,fun v=>(h.t v).bump hk⟩
theorem BdF.pos(h:BdF D B N f):0<D:=h.c.pos
theorem BdF.zero(B N:Nat)(h:0<D):BdF D B N zcB:=⟨zel,zfN N,Bd.zero h,fun _=>Bd.zero h⟩
theorem Bd.one(h:0<D)(hB:1<=B):Bd D B 1:=by
 have:Bd (1*D) B 1:=Bd.bump (D:=1) ⟨Ya,1,Yd,by simpa using hB⟩ h
 rwa [Zao]at this
theorem BdF.var(h:0<D)(hB:1<=B)(hv:v<N):BdF D B N (zbv v):=by
 refine⟨zff v,zin hv,Bd.zero h,fun u=>?_⟩
 show Bd D B (if v=u then 1 else 0)
 split
 ·exact Bd.one h hB
 ·exact Bd.zero h
theorem BdF.num(N:Nat)(h:Bd D B q):BdF D B N (zoP q):=⟨zkP q,zn7 N q,h,fun _=>Bd.zero h.pos⟩
theorem BdF.add{g:zl}(hf:BdF D B N f)(hg:BdF D C N g):BdF D (B+C) N (zbi 1 f g):=by
 refine⟨zbf _ _ _,zcJ hf.top hg.top,?_,fun v=>?_⟩
 ·show Bd D (B+C) (f.c+1*g.c)
  rw[Zbn];exact hf.c.add hg.c
 ·show Bd D (B+C) (zM (zfm 1 f.ts g.ts) v)
  rw[za3,Zbn];exact(hf.t v).add (hg.t v)
theorem BdF.sub{g:zl}(hf:BdF D B N f)(hg:BdF D C N g):BdF D (B+C) N (zbi (-1) f g):=by
 refine⟨zbf _ _ _,zcJ hf.top hg.top,?_,fun v=>?_⟩
 ·show Bd D (B+C) (f.c+ -1*g.c)
  rw[zdF];exact hf.c.sub hg.c
 ·show Bd D (B+C) (zM (zfm (-1) f.ts g.ts) v)
  rw[za3,zdF];exact(hf.t v).sub (hg.t v)
theorem BdF.sc{W:Nat}(hk:Bd W C k)(hf:BdF D B N f):BdF (W*D) (C*B) N (scA k f):=by
 refine⟨zbf _ _ _,zcJ (zfN N) hf.top,?_,fun v=>?_⟩
 ·show Bd (W*D) (C*B) (0+k*f.c)
  rw[Za4];exact hk.mul hf.c
 ·show Bd (W*D) (C*B) (zM (zfm k [] f.ts) v)
  rw[za3];show Bd (W*D) (C*B) (0+k*zM f.ts v)
  rw[Za4];exact hk.mul (hf.t v)
def zcp(D B N:Nat)(x:List zl):Prop:=∀f∈x,BdF D B N f
theorem zcp.at{D B N:Nat}{x:List zl}(h:zcp D B N x)(hD:0<D)(k:Nat):BdF D B N (x.getD k zcB):=by
 rw[Zd]
 cases e:x[k]? with
 | none=>exact BdF.zero B N hD
 | some f=>exact h f (Zq e)
theorem zcp.mono{B':Nat}(h:zcp D B N x)(hb:B<=B')(hn:N<=N'):zcp D B' N' x:=fun f hf=>(h f hf).mono hb hn
theorem zcp.bump{k:Nat}(h:zcp D B N x)(hk:0<k):zcp (D*k) B N x:=fun f hf=>(h f hf).bump hk
theorem zcp.vals(h:zcp D B N x)(hD:0<D)(ix:List Int):zcp D B N (zba ix x):=by
 intro f hf;obtain⟨i,_,rfl⟩:=ZP.1 hf;exact h.at hD _
theorem zcp.nil(D B N:Nat):zcp D B N []:=fun f hf=>by cases hf
theorem zcp.snoc(h:zcp D B N x)(hf:BdF D B N f):zcp D B N (x++[f]):=by
 intro g hg
 rcases Zar.1 hg with hg|hg
 ·exact h g hg
 ·rw[List.mem_singleton]at hg;rw[hg];exact hf
theorem BdF.sum{W D C B N:Nat}{b:Rat}{ws:List Rat}{x:List zl}(hb:Bd W C b)(hw:BdL W C ws)(hx:zcp D B N x)(hD:0<D)(off:Nat)(ix:List Int)(k:Nat):BdF (W*D) (C+k*(C*B)) N (zdq b ws off ix x k):=by
 induction k with
 | zero=>rw[Zbe,ZU];exact(BdF.num N hb).bump hD
 | succ k ih=>
  unfold zdq;rw[Zac,<- Zat]
  split
  ·exact ih.add (BdF.sc (hw.at hb.pos _) (hx.at hD _))
  ·exact ih.mono Ya (Za _)
theorem BdF.plus{D B N:Nat}{x:List zl}(hx:zcp D B N x)(hD:0<D)(k:Nat):BdF D (k*B) N (zhw x k):=by
 induction k with
 | zero=>exact BdF.zero _ N hD
 | succ k ih=>
  rw[Zac];exact ih.add (hx.at hD k)
theorem Bd.inv(hn:0<n):Bd n 1 (1/((n:Int):Rat)):=by
 have h:Bd 1 (n*1) ((n:Int):Rat):=⟨Ya,(n:Int),by rw[Zby],Yc⟩
 have:=Bd.divN (D:=1) (B:=1) (n:=n) (q:=1) ⟨Ya,1,Yd,Yi⟩ hn
 rwa [Zao]at this
theorem BdF.mean(hx:zcp D B N x)(hD:0<D)(hl:1<=x.length):BdF (x.length*D) (1*(x.length*B)) N (zfP x):=BdF.sc (Bd.inv hl) (BdF.plus hx hD _)
theorem BdF.great{D B N:Nat}(hD:0<D)(hB:1<=B)(nI:Nat):∀(fuel e:Nat) (U l:List zl),zcp D B N l->fuel<=e->1<=l.length->l.length<=fuel->nI+U.length+(l.length-1)<=N->zcp D (2*(B+e)) N U->
  zcp D (2*(B+e)) N (zZ nI fuel U l).1/\BdF D (B+fuel) N (zZ nI fuel U l).2
 | 0,e,U,l,_,_,h1,h2,_,_=>by omega
 | fuel+1,e,U,l,hl,he,h1,h2,hN,hU=>by
  by_cases hc:l.length<=1
  ·rw[zcA Ya];exact⟨hU,(hl.at hD 0).mono Ya (Za _)⟩
  ·have t1:(l.take ((l.length+1)/2)).length=(l.length+1)/2:=Yy;have t2:(l.drop ((l.length+1)/2)).length=l.length-(l.length+1)/2:=Za6;obtain⟨a1,a2⟩:=BdF.great hD hB nI fuel e U (l.take ((l.length+1)/2)) (fun f hf=>hl f (ZT hf)) Ya Ya Ya Ya hU;have c1:=(zax nI fuel U (l.take ((l.length+1)/2)) Ya Ya)
   obtain⟨b1,b2⟩:=BdF.great hD hB nI fuel e (zZ nI fuel U (l.take ((l.length+1)/2))).1 (l.drop ((l.length+1)/2)) (fun f hf=>hl f (ZX hf)) Ya Ya Ya Ya a1;have c2:=(zax nI fuel (zZ nI fuel U (l.take ((l.length+1)/2))).1 (l.drop ((l.length+1)/2)) Ya Ya)
   rw[zb6 Ya rfl rfl]
   refine⟨b1.snoc ((b2.sub a2).mono Ya (Za _)),?_⟩
   exact(a2.add (BdF.var (B:=1) hD Ya Ya)).mono Ya (Za _)
theorem zbC.setCell{p:Value->Bool}{w:World}{g:Nat}(h:zbC p w g)(o:Nat)(v:Value)(hv:p v=true):zbC p (w.setCell ⟨g,o,none⟩ v) g:=by
 intro o' x e
 by_cases ho:o'=o
 ·subst ho
  cases hc:w.cell? ⟨g,o',none⟩with
  | none=>
   rw[zb7 hc]at e;cases e
  | some y=>
   rw[Z3 _ _ _ hc]at e;cases e;exact hv
 exact I0
theorem zbC.alloc{p:Value->Bool}(w:World)(cs:Array Value)(T:Nat)(h:∀u∈cs,p u=true):zbC p (w.alloc (.cells cs T)) w.heap.size:=by
 intro o x e;rw[World.cell?_alloc_at _ _ _ _ rfl]at e;exact h _ (Zbk e)
theorem zbC.far{p:Value->Bool}{h:Nat}(hn:zbC p w g)(hne:h≠g)(o:Nat)(v:Value):zbC p (w.setCell ⟨h,o,none⟩ v) g:=fun o' x e=>hn o' x ((zeS hne).symm.trans e)
theorem zbC.noI(h:zbC zco w g):zX w g:=fun o x e=>by have:=h o _ e;cases this
theorem zag.setCell{L:List (Nat×Rat)}(h:zag w a L)(hg:zbC zco w g)(o:Nat)(u:Value):zag (w.setCell ⟨g,o,none⟩ u) a L:=by
 refine⟨h.len,?_⟩
 rcases h.row with rfl|⟨b,off,rfl,hb,hc⟩
 ·exact .inl rfl
 ·by_cases hL:L=[]
  ·exact .inl hL
  ·have hp:=ZJ.2 hL;have hne:g≠b:=by
    rintro rfl;obtain⟨p0,p1,p2,p3,h0,_,_,_,h4⟩:=hc 0 L[0] (Zh hp);rw[h4.1]at h0;have:=hg _ _ h0;cases this
   refine .inr ⟨b,off,rfl,Kn,fun j x hj=>?_⟩
   obtain⟨p0,p1,p2,p3,h0,h1,h2,h3,h4⟩:=hc j x hj;exact⟨p0,p1,p2,p3,(zeS hne).trans h0,(zeS hne).trans h1,(zeS hne).trans h2,(zeS hne).trans h3,h4.1,h4.2.setCell hg.noI o u⟩
theorem zaL.setCell(h:zaL w p0 p1 p2 p3 f)(hg:zbC zco w g)(o:Nat)(u:Value):zaL (w.setCell ⟨g,o,none⟩ u) p0 p1 p2 p3 f:=by
 obtain⟨⟨a,c,e,hc,ht⟩,hr⟩:=h;exact⟨⟨a,c,e,hc,ht.setCell hg o u⟩,hr.setCell hg.noI o u⟩
theorem zaL.bs(h:zaL w p0 p1 p2 p3 f):zco p0=true/\zco p1=true/\zco p2=true/\zco p3=true:=by
 obtain⟨⟨a,c,rfl,_,_⟩,hr⟩:=h;obtain⟨an,ad,cn,cd,rfl,rfl,rfl,_⟩:=hr.ex;exact⟨rfl,rfl,rfl,rfl⟩
def zql(w:World)(g:Nat)(p0 p1 p2 p3:Value):World:=(((w.setCell ⟨g,0,none⟩ p0).setCell ⟨g,1,none⟩ p1).setCell ⟨g,2,none⟩ p2).setCell ⟨g,3,none⟩ p3
theorem zbC.store4(h:zbC zco w g)(hp:zco p0=true/\zco p1=true/\zco p2=true/\zco p3=true):zbC zco (zql w g p0 p1 p2 p3) g:=
 (((h.setCell 0 p0 hp.1).setCell 1 p1 hp.2.1).setCell 2 p2 hp.2.2.1).setCell 3 p3 hp.2.2.2
theorem zaL.store4(h:zaL w q0 q1 q2 q3 f)(hg:zbC zco w g)(hp:zco p0=true/\zco p1=true/\zco p2=true/\zco p3=true):zaL (zql w g p0 p1 p2 p3) q0 q1 q2 q3 f:=
 (((h.setCell hg 0 p0).setCell (hg.setCell 0 p0 hp.1) 1 p1).setCell ((hg.setCell 0 p0 hp.1).setCell 1 p1 hp.2.1) 2 p2).setCell (((hg.setCell 0 p0 hp.1).setCell 1 p1 hp.2.1).setCell 2 p2 hp.2.2.1) 3 p3
theorem zap.store4{v:Value}(h:zap w v f)(hg:zbC zco w g)(hp:zco p0=true/\zco p1=true/\zco p2=true/\zco p3=true):zap (Go.Proofs.YtfgmmghmmfmdgaaGreat.zql w g p0 p1 p2 p3) v f:=by
 obtain⟨q0,q1,q2,q3,e,k⟩:=h.ex;exact⟨q0,q1,q2,q3,e,k.store4 hg hp⟩
theorem zap.ret(h:zap W (.agg #[p0,p1,p2,p3]) f)(hg:zbC zco W g)(hb:Below w.heap.size w W)(hge:w.heap.size<=g):
  za2 w f (.returned (.agg #[p0,p1,p2,p3])) ((((W.setCell ⟨g,0,none⟩ p0).setCell ⟨g,1,none⟩ p1).setCell ⟨g,2,none⟩ p2).setCell ⟨g,3,none⟩ p3):=by
 have hp:zco p0=true/\zco p1=true/\zco p2=true/\zco p3=true:=by
  obtain⟨q0,q1,q2,q3,e,k⟩:=h.ex;cases e;exact k.bs
 exact⟨_,rfl,h.store4 hg hp,zcb hb hge _ _ _ _⟩
structure zfo (w:World) (g:Nat) (p0 p1 p2 p3:Value) (f:zl):Prop where
 bx:zbl w g p0 p1 p2 p3
 al:zbC zco w g
 fm:zaL w p0 p1 p2 p3 f
theorem zfo.below(h:zfo w g p0 p1 p2 p3 f)(hb:Below w.heap.size w w'):zfo w' g p0 p1 p2 p3 f:=
 ⟨h.bx.below hb,h.al.below hb h.bx.lt,zaX.below h.fm hb⟩
theorem zaL.val(h:zaL w p0 p1 p2 p3 f):zap w (.agg #[p0,p1,p2,p3]) f:=⟨_,_,_,_,rfl,h⟩
theorem zap.fp(h:zap w (.agg #[p0,p1,p2,p3]) f):zaL w p0 p1 p2 p3 f:=by
 obtain⟨q0,q1,q2,q3,e,k⟩:=h.ex;cases e;exact k
theorem zfo.set{k:zl}(h:zfo w g p0 p1 p2 p3 f)(hk:zaL w q0 q1 q2 q3 k):
  zfo ((((w.setCell ⟨g,0,none⟩ q0).setCell ⟨g,1,none⟩ q1).setCell ⟨g,2,none⟩ q2).setCell ⟨g,3,none⟩ q3) g q0 q1 q2 q3 k:=
 ⟨h.bx.store _ _ _ _,h.al.store4 hk.bs,hk.store4 h.al hk.bs⟩
theorem zfo.alloc(h:zaL w p0 p1 p2 p3 f)(T:Nat):zfo (w.alloc (.cells #[p0,p1,p2,p3] T)) w.heap.size p0 p1 p2 p3 f:=
 ⟨zbl.alloc w _ _ _ _ T,zbC.alloc w _ T (by intro u hu;obtain⟨h0,h1,h2,h3⟩:=h.bs;simp at hu;rcases hu with rfl|rfl|rfl|rfl<;>assumption),zaX.below h ((Ze _ _).alloc (Za _) _)⟩
theorem za6(w:World):zaL w (.slice none 0 0) (.bool false) (.slice none 0 0) (.slice none 0 0) zcB:=by
 have e:zc 0=⟨false,[],[]⟩:=Vs
 refine⟨⟨none,0,rfl,Za _,Zs _,.inl rfl⟩,none,none,0,0,?_,?_,?_,?_,?_,?_,?_⟩
 ·show Value.bool false=.bool (zc 0).neg;rw[e]
 ·show Value.slice none 0 0=.slice none (zc 0).num.length 0;rw[e];rfl
 ·show Value.slice none 0 0=.slice none (zc 0).den.length 0;rw[e];rfl
 ·show(zc 0).num.length<=0;rw[e];exact Za _
 ·show(zc 0).den.length<=0;rw[e];exact Za _
 ·show zw w none (zc 0).num;rw[e];exact zw.nil _ _
 ·show zw w none (zc 0).den;rw[e];exact zw.nil _ _
theorem zqV{g:zl}(hf:BdF D B N f)(hg:BdF D C N g)(hP:Pay D (B+C))(hN:N<=500000):zo2 1 f g:=by
 have h1:=hP.le (Za _) (Nat.le_add_right B C);have h2:=hP.le (Za _) (Zbw C B);have hD:=hf.pos
 refine⟨?_,h1.bd hf.c,h2.bd hg.c,?_,fun t ht=>h1.bd (hf.mem ht),fun t ht=>h2.bd (hg.mem ht),fun t ht=>?_,fun t ht u hu=>?_,by have:=hf.few;have:=hg.few;omega⟩
 ·exact(Bd.one (D:=1) (B:=1) Ya Ya).small (k:=1) (M:=1) (N:=1) Ya Ya Yd |>.mono Ya
 ·rw[Rat.mul_one];exact h2.bd hg.c
 ·rw[Rat.mul_one];exact h2.bd (hg.mem ht)
 ·rw[Rat.mul_one];exact hP.bd ((hf.mem ht).add (hg.mem hu))
theorem zez(a:Rat):a * -1= -a:=by grind
theorem zrg{g:zl}(hf:BdF D B N f)(hg:BdF D C N g)(hP:Pay D (B+C))(hN:N<=500000):zo2 (-1) f g:=by
 have h1:=hP.le (Za _) (Nat.le_add_right B C);have h2:=hP.le (Za _) (Zbw C B);have hD:=hf.pos
 refine⟨?_,h1.bd hf.c,h2.bd hg.c,?_,fun t ht=>h1.bd (hf.mem ht),fun t ht=>h2.bd (hg.mem ht),fun t ht=>?_,fun t ht u hu=>?_,by have:=hf.few;have:=hg.few;omega⟩
 ·exact(Bd.one (D:=1) (B:=1) Ya Ya).neg.small (k:=1) (M:=1) (N:=1) Ya Ya Yd |>.mono Ya
 ·rw[zez];exact h2.bd hg.c.neg
 ·rw[zez];exact h2.bd (hg.mem ht).neg
 ·rw[zez];exact hP.bd ((hf.mem ht).add (hg.mem hu).neg)
theorem zsK{W:Nat}(hk:Bd W C k)(hf:BdF D B N f)(hP:Pay (W*D) (C*B+C+B))(hN:N<=500000):zo2 k zcB f:=by
 have hD:=hf.pos;have hW:=hk.pos;have z:∀j,zD (zc 0) j:=fun j=>by rw[show zc 0=⟨false,[],[]⟩from Vs];exact⟨Zs _,Zs _⟩
 have h1:zD (zc k) 1048575:=(hP.le (Za _) (Zi (Zbw C (C*B)) (Nat.le_add_right _ B))).bd (hk.bump hD);have h2:∀q,Bd D B q->zD (zc q) 1048575:=fun q hq=>by
  have:=hq.bump hW;rw[ZD]at this;exact(hP.le (Za _) (Zbw B _)).bd this
 have h3:∀q,Bd D B q->zD (zc (q*k)) 1048575:=fun q hq=>by
  rw[Rat.mul_comm];exact(hP.le (Za _) Ya).bd (hk.mul hq)
 refine⟨h1,z _,h2 _ hf.c,h3 _ hf.c,fun t ht=>(by cases ht),fun t ht=>h2 _ (hf.mem ht),fun t ht=>h3 _ (hf.mem ht),fun t ht=>(by cases ht),by have:=hf.few;show 0+f.ts.length<=_;omega⟩
structure zpG (w W:World) (f0 f1 f2 f3 g0 g1 g2 g3:Value):Prop where
 fb:zbl W w.heap.size f0 f1 f2 f3
 gb:zbl W (w.heap.size+1) g0 g1 g2 g3
 rb:zbl W (w.heap.size+1+1) (.slice none 0 0) (.bool false) (.slice none 0 0) (.slice none 0 0)
 nr:zbC zco W (w.heap.size+1+1)
 bl:Below w.heap.size w W
theorem zpG.below{f0 f1 f2 f3:Value}(h:zpG w W f0 f1 f2 f3 g0 g1 g2 g3)(hb:Below W.heap.size W W'):zpG w W' f0 f1 f2 f3 g0 g1 g2 g3:=
 ⟨h.fb.below hb,h.gb.below hb,h.rb.below hb,h.nr.below hb h.rb.lt,h.bl.trans (hb.mono h.bl.size)⟩
theorem zpG.mk'(w:World)(f0 f1 f2 f3 g0 g1 g2 g3:Value)(T:TypeId):
  zpG w (((w.alloc (.cells #[f0,f1,f2,f3] T)).alloc (.cells #[g0,g1,g2,g3] T)).alloc (.cells #[.slice none 0 0,.bool false,.slice none 0 0,.slice none 0 0] T)) f0 f1 f2 f3 g0 g1 g2 g3:=by
 have a1:=zbl.alloc w f0 f1 f2 f3 T;have b1:=blA w (.cells #[f0,f1,f2,f3] T);have s1:(w.alloc (.cells #[f0,f1,f2,f3] T)).heap.size=w.heap.size+1:=Yc;generalize w.alloc (.cells #[f0,f1,f2,f3] T)=W1 at *;have a2:=zbl.alloc W1 g0 g1 g2 g3 T;have b2:=blA W1 (.cells #[g0,g1,g2,g3] T);have s2:(W1.alloc (.cells #[g0,g1,g2,g3] T)).heap.size=w.heap.size+1+1:=Yi;generalize W1.alloc (.cells #[g0,g1,g2,g3] T)=W2 at *;have a4:=zbl.alloc W2 (.slice none 0 0) (.bool false) (.slice none 0 0) (.slice none 0 0) T;have n4:=zbC.alloc (p:=zco) W2 #[.slice none 0 0,.bool false,.slice none 0 0,.slice none 0 0] T Yp;have b4:=blA W2 (.cells #[.slice none 0 0,.bool false,.slice none 0 0,.slice none 0 0] T);generalize W2.alloc (.cells #[.slice none 0 0,.bool false,.slice none 0 0,.slice none 0 0] T)=W4 at *;rw[s1]at a2;rw[s2]at a4 n4;have b24:=b2.trans (b4.mono b2.size);exact⟨a1.below b24,a2.below b4,a4,n4,b1.trans (b24.mono b1.size)⟩
theorem zr9{g:zl}(hf:zap w vf f)(hg:zap w vg g)(bf:BdF D B N f)(bg:BdF D C N g)(hP:Pay D (B+C))(hN:N<=500000):
  Calls Tryz.prog 60 #[vf,vg] w (za2 w (zbi (1) f g)):=by
 obtain⟨aF,cF,fan,fad,fcn,fcd,rfl,hcF,htF,l1,l2,u1,u2⟩:=hf.parts;obtain⟨aG,cG,gan,gad,gcn,gcd,rfl,hcG,htG,m1,m2,v1,v2⟩:=hg.parts;obtain⟨HF,HG,HLe,HcF,HcG,HT⟩:=hd6 hf hg (zqV bf bg hP hN) bf.can bg.can (zpG.mk' w (.slice aF f.ts.length cF) (.bool (zc f.c).neg) (.slice fan (zc f.c).num.length fcn) (.slice fad (zc f.c).den.length fcd) (.slice aG g.ts.length cG) (.bool (zc g.c).neg) (.slice gan (zc g.c).num.length gcn) (.slice gad (zc g.c).den.length gcd) 53);clear hf hg bf bg hP htF htG u1 u2 v1 v2
 go_enter Tryz.func60,Tryz.ntmps60
 go_upto_region 1 with fail
 generalize((w.alloc (.cells #[.slice aF f.ts.length cF,.bool (zc f.c).neg,.slice fan (zc f.c).num.length fcn,.slice fad (zc f.c).den.length fcd] 53)).alloc (.cells #[.slice aG g.ts.length cG,.bool (zc g.c).neg,.slice gan (zc g.c).num.length gcn,.slice gad (zc g.c).den.length gcd] 53)).alloc (.cells #[.slice none 0 0,.bool false,.slice none 0 0,.slice none 0 0] 53)=w1 at *;have HOf:Hid (∀X,Calls Tryz.prog 54 #[.int .i64 (1)] X (zcj X (zc (1)))):=fun X=>rOf X (1) Yd Yd
 have HMg:Hid (∀X,Below w1.heap.size w1 X->∀z,RatV X z (zc (1))->Calls Tryz.prog 93 #[.agg #[.slice aF f.ts.length cF,.bool (zc f.c).neg,.slice fan (zc f.c).num.length fcn,.slice fad (zc f.c).den.length fcd],.agg #[.slice aG g.ts.length cG,.bool (zc g.c).neg,.slice gan (zc g.c).num.length gcn,.slice gad (zc g.c).den.length gcd],z] X (za2 X (zbi (1) f g))):=fun X hb z hz=>by
  exact ET
 refine zj 4 Yb Yb Yb Yb Yd (zbZ w1.heap.size w1) (fun w w'=>Below w.heap.size w w') (GQ [.val (.agg #[.slice aF f.ts.length cF,.bool (zc f.c).neg,.slice fan (zc f.c).num.length fcn,.slice fad (zc f.c).den.length fcd]),.val (.agg #[.slice aG g.ts.length cG,.bool (zc g.c).neg,.slice gan (zc g.c).num.length gcn,.slice gad (zc g.c).den.length gcd]),.rat (1),.frm (zbi (1) f g)]) (fun i v w w' h hb=>zaV h hb) (zbZ.start (Za _)) ?_ ?_
 ·exact IX
 ·intro ops y X hR hL;have hB:=hR.base;have J3:=hL.2;simp only[GQ,Zf,Zc]at J3;have HT2:=hid (HT.out.below hR.be);obtain⟨f0,f1,f2,f3,_,ft⟩:=HT2.out.fb;obtain⟨g0,g1,g2,g3,_,gt⟩:=HT2.out.gb;clear hL;simp only[Zo,Zw,ZG,ZO];simp[ze,Act.put];generalize y 3=y3 at J3⊢;have HR:=hid hR;clear hR;have HV:=hid J3;obtain⟨a5,c5,n5,d5,e5,g5,rfl,_⟩:=J3.parts;clear J3 f0 f1 f2 f3 ft g0 g1 g2 g3 gt;obtain⟨r0,r1,r2,r3,rf,rlt⟩:=HT2.out.rb;have HO:=hid (HV.out.ret HT2.out.nr HT2.out.bl Ya);generalize zbi (1) f g=R at *;clear HV;go_wp2;exact Zp (by simp[results,Tryz.results60,go_sem,r0,r1,r2,r3]) rfl HO.out
theorem zuw{g:zl}(hf:zap w vf f)(hg:zap w vg g)(bf:BdF D B N f)(bg:BdF D C N g)(hP:Pay D (B+C))(hN:N<=500000):
  Calls Tryz.prog 91 #[vf,vg] w (za2 w (zbi (-1) f g)):=by
 obtain⟨aF,cF,fan,fad,fcn,fcd,rfl,hcF,htF,l1,l2,u1,u2⟩:=hf.parts;obtain⟨aG,cG,gan,gad,gcn,gcd,rfl,hcG,htG,m1,m2,v1,v2⟩:=hg.parts;obtain⟨HF,HG,HLe,HcF,HcG,HT⟩:=hd6 hf hg (zrg bf bg hP hN) bf.can bg.can (zpG.mk' w (.slice aF f.ts.length cF) (.bool (zc f.c).neg) (.slice fan (zc f.c).num.length fcn) (.slice fad (zc f.c).den.length fcd) (.slice aG g.ts.length cG) (.bool (zc g.c).neg) (.slice gan (zc g.c).num.length gcn) (.slice gad (zc g.c).den.length gcd) 53);clear hf hg bf bg hP htF htG u1 u2 v1 v2
 go_enter Tryz.func91,Tryz.ntmps91
 go_upto_region 1 with fail
 generalize((w.alloc (.cells #[.slice aF f.ts.length cF,.bool (zc f.c).neg,.slice fan (zc f.c).num.length fcn,.slice fad (zc f.c).den.length fcd] 53)).alloc (.cells #[.slice aG g.ts.length cG,.bool (zc g.c).neg,.slice gan (zc g.c).num.length gcn,.slice gad (zc g.c).den.length gcd] 53)).alloc (.cells #[.slice none 0 0,.bool false,.slice none 0 0,.slice none 0 0] 53)=w1 at *;have HOf:Hid (∀X,Calls Tryz.prog 54 #[.int .i64 (-1)] X (zcj X (zc (-1)))):=fun X=>rOf X (-1) Yd Yd
 have HMg:Hid (∀X,Below w1.heap.size w1 X->∀z,RatV X z (zc (-1))->Calls Tryz.prog 93 #[.agg #[.slice aF f.ts.length cF,.bool (zc f.c).neg,.slice fan (zc f.c).num.length fcn,.slice fad (zc f.c).den.length fcd],.agg #[.slice aG g.ts.length cG,.bool (zc g.c).neg,.slice gan (zc g.c).num.length gcn,.slice gad (zc g.c).den.length gcd],z] X (za2 X (zbi (-1) f g))):=fun X hb z hz=>by
  exact ET
 refine zj 4 Yb Yb Yb Yb Yd (zbZ w1.heap.size w1) (fun w w'=>Below w.heap.size w w') (GQ [.val (.agg #[.slice aF f.ts.length cF,.bool (zc f.c).neg,.slice fan (zc f.c).num.length fcn,.slice fad (zc f.c).den.length fcd]),.val (.agg #[.slice aG g.ts.length cG,.bool (zc g.c).neg,.slice gan (zc g.c).num.length gcn,.slice gad (zc g.c).den.length gcd]),.rat (-1),.frm (zbi (-1) f g)]) (fun i v w w' h hb=>zaV h hb) (zbZ.start (Za _)) ?_ ?_
 ·exact IX
 ·intro ops y X hR hL;have hB:=hR.base;have J3:=hL.2;simp only[GQ,Zf,Zc]at J3;have HT2:=hid (HT.out.below hR.be);obtain⟨f0,f1,f2,f3,_,ft⟩:=HT2.out.fb;obtain⟨g0,g1,g2,g3,_,gt⟩:=HT2.out.gb;clear hL;simp only[Zo,Zw,ZG,ZO];simp[ze,Act.put];generalize y 3=y3 at J3⊢;have HR:=hid hR;clear hR;have HV:=hid J3;obtain⟨a5,c5,n5,d5,e5,g5,rfl,_⟩:=J3.parts;clear J3 f0 f1 f2 f3 ft g0 g1 g2 g3 gt;obtain⟨r0,r1,r2,r3,rf,rlt⟩:=HT2.out.rb;have HO:=hid (HV.out.ret HT2.out.nr HT2.out.bl Ya);generalize zbi (-1) f g=R at *;clear HV;go_wp2;exact Zp (by simp[results,Tryz.results91,go_sem,r0,r1,r2,r3]) rfl HO.out
theorem zqE{vk:Value}{W:Nat}(hf:zap w vf f)(hk:RatV w vk (zc k))(bk:Bd W C k)(bf:BdF D B N f)(hP:Pay (W*D) (C*B+C+B))(hN:N<=500000):
  Calls Tryz.prog 89 #[vf,vk] w (za2 w (scA k f)):=by
 obtain⟨aF,cF,fan,fad,fcn,fcd,rfl,hcF,htF,l1,l2,u1,u2⟩:=hf.parts;obtain⟨kn,kd,kcn,kcd,rfl,n1,n2,x1,x2⟩:=hk.ex;obtain⟨HF,HK,HLe,HC⟩:=hd4 hf hk (zsK bk bf hP hN) bf.can;have x1:=zbl.alloc w (.slice aF f.ts.length cF) (.bool (zc f.c).neg) (.slice fan (zc f.c).num.length fcn) (.slice fad (zc f.c).den.length fcd) 53;have b1:=blA w (.cells #[.slice aF f.ts.length cF,.bool (zc f.c).neg,.slice fan (zc f.c).num.length fcn,.slice fad (zc f.c).den.length fcd] 53);have s1:(w.alloc (.cells #[.slice aF f.ts.length cF,.bool (zc f.c).neg,.slice fan (zc f.c).num.length fcn,.slice fad (zc f.c).den.length fcd] 53)).heap.size=w.heap.size+1:=Yc;obtain⟨W1,hW1⟩:∃W1,W1=w.alloc (.cells #[.slice aF f.ts.length cF,.bool (zc f.c).neg,.slice fan (zc f.c).num.length fcn,.slice fad (zc f.c).den.length fcd] 53):=⟨_,rfl⟩
 rw[<- hW1]at x1 b1 s1;have x2:=za4.alloc W1 (.bool (zc k).neg) (.slice kn (zc k).num.length kcn) (.slice kd (zc k).den.length kcd) 51;have b2:=blA W1 (.cells #[.bool (zc k).neg,.slice kn (zc k).num.length kcn,.slice kd (zc k).den.length kcd] 51);have s2:(W1.alloc (.cells #[.bool (zc k).neg,.slice kn (zc k).num.length kcn,.slice kd (zc k).den.length kcd] 51)).heap.size=w.heap.size+1+1:=Yi;obtain⟨W2,hW2⟩:∃W2,W2=W1.alloc (.cells #[.bool (zc k).neg,.slice kn (zc k).num.length kcn,.slice kd (zc k).den.length kcd] 51):=⟨_,rfl⟩
 rw[<- hW2]at x2 b2 s2;have x3:=zfo.alloc (za6 W2) 53;have b3:=blA W2 (.cells #[.slice none 0 0,.bool false,.slice none 0 0,.slice none 0 0] 53);obtain⟨W3,hW3⟩:∃W3,W3=W2.alloc (.cells #[.slice none 0 0,.bool false,.slice none 0 0,.slice none 0 0] 53):=⟨_,rfl⟩
 rw[<- hW3]at x3 b3;rw[s2]at x3;rw[s1]at x2;have b23:=b2.trans (b3.mono b2.size);obtain⟨HX1,HX2,HX3,HB,HWs⟩:=hd5 (x1.below b23) (x2.below b3) x3 (b1.trans (b23.mono b1.size)) hW3;rw[hW2,hW1]at HWs;clear x1 x2 x3 b1 b2 b3 b23 s1 s2 hW1 hW2 hW3 hf hk u1 u2 htF bk bf hP
 go_enter Tryz.func89,Tryz.ntmps89
 go_upto_region 1 with fail
 rw[<- HWs.out];clear HWs;obtain⟨f0,f1,f2,f3,ff,flt⟩:=HX1.out;obtain⟨k0,k1,k2,kf,klt⟩:=HX2.out;have HM:=hid (zqp (za6 W3).val (HF.out.below HB.out) (HK.out.below HB.out) zel HC.out HLe.out)
 go_wp2_with fail
 refine HM.out.mono ?_
 rintro e w5 ⟨v5,rfl,hv,hb⟩;obtain⟨HV,HR⟩:=hd2 hv (HX3.out.below hb);have HB5:=htr HB hb;obtain⟨a5,c5,n5,d5,e5,g5,rfl,_⟩:=hv.parts;clear hv hb HM f0 f1 f2 f3 ff flt k0 k1 k2 kf klt;obtain⟨r0,r1,r2,r3,rf,rlt⟩:=HR.out.bx;have HO:=hid (show za2 w (scA k f) _ _ from HV.out.ret HR.out.al HB5.out Ya);have hs:scA k f=zbi k zcB f:=rfl;rw[<- hs];generalize scA k f=R at *;clear HV;go_wp2;exact Zp (by simp[results,Tryz.results89,go_sem,r0,r1,r2,r3]) rfl HO.out
theorem zk8{b an ad:Option Addr}{cn cd:Nat}(hb:b=some ⟨B,0,none⟩)(hB:B<w.heap.size)(h0:w.cell? ⟨B,0,none⟩=some (.int .i64 (v:Int)))(h1:w.cell? ⟨B,1,none⟩=some p1)(h2:w.cell? ⟨B,2,none⟩=some p2)(h3:w.cell? ⟨B,3,none⟩=some p3)(hr:zbU w p1 p2 p3 1):
  zaL w (.slice b 1 1) (.bool false) (.slice none 0 0) (.slice none 0 0) (zbv v):=by
 obtain⟨_,k⟩:=za6 w
 refine⟨⟨b,1,rfl,Za _,(by show(1:Nat)<=_;omega),.inr ⟨B,0,hb,hB,fun j x hj=>?_⟩⟩,k⟩
 obtain rfl:j=0:=by have:=(Zr.1 hj).1;simp[zbv]at this;omega
 obtain rfl:(v,(1:Rat))=x:=by simpa [zbv]using hj
 exact⟨_,p1,p2,p3,h0,h1,h2,h3,rfl,hr⟩
theorem zfW(hg:g<w.heap.size)(o:Obj)(p0 p1 p2 p3:Value):
  (((((w.alloc o).setCell ⟨g,0,none⟩ p0).setCell ⟨g,1,none⟩ p1).setCell ⟨g,2,none⟩ p2).setCell ⟨g,3,none⟩ p3)=((((w.setCell ⟨g,0,none⟩ p0).setCell ⟨g,1,none⟩ p1).setCell ⟨g,2,none⟩ p2).setCell ⟨g,3,none⟩ p3).alloc o:=by
 rw[World.setCell_alloc_past _ _ _ _ hg,World.setCell_alloc_past _ _ _ _ Uh,World.setCell_alloc_past _ _ _ _ Uh,World.setCell_alloc_past _ _ _ _ Uh]
theorem zjd(w:World)(v:Nat):Calls Tryz.prog 34 #[.int .i64 (v:Int)] w (za2 w (zbv v)):=by
 obtain⟨HX,HB⟩:=hd2 (zfo.alloc (za6 w) 53) ((Ze w.heap.size w).alloc (Za _) (.cells #[.slice none 0 0,.bool false,.slice none 0 0,.slice none 0 0] 53))
 go_enter Tryz.func34,Tryz.ntmps34
 go_upto_region 1 with fail
 generalize w.alloc (.cells #[.slice none 0 0,.bool false,.slice none 0 0,.slice none 0 0] 53)=W at *;have HO:=hid (rOf W 1 Yd Yd)
 go_wp2_with fail
 refine HO.out.mono ?_
 rintro e w1 ⟨v1,rfl,hv,hb⟩;have hv':RatV w1 v1 (zc 1):=hv;obtain⟨p1,p2,p3,rfl,hrc⟩:=zbU.of hv';obtain⟨HRC,HX1⟩:=hd2 hrc (HX.out.below hb);have HB1:=htr HB hb;obtain⟨an,ad,cn,cd,rfl,rfl,rfl,l1,l2,u1,u2⟩:=hrc.ex;clear hv hv' hb HO u1 u2 hrc;obtain⟨HX2,HB2,HF2⟩:=hd3 (HX1.out.below ((Ze w1.heap.size w1).alloc (Za _) (.cells #[.int .i64 (v:Int),.bool (zc 1).neg,.slice an (zc 1).num.length cn,.slice ad (zc 1).den.length cd] 84))) (HB1.out.trans (((Ze w1.heap.size w1).alloc (Za _) (.cells #[.int .i64 (v:Int),.bool (zc 1).neg,.slice an (zc 1).num.length cn,.slice ad (zc 1).den.length cd] 84)).mono HB1.out.size)) (zk8 (v:=v) (an:=an) (ad:=ad) (cn:=cn) (cd:=cd) (w:=w1.alloc (.cells #[.int .i64 (v:Int),.bool (zc 1).neg,.slice an (zc 1).num.length cn,.slice ad (zc 1).den.length cd] 84)) (b:=some ⟨w1.heap.size,0,none⟩) rfl Yc (by rw[World.cell?_alloc_at _ _ _ _ rfl];rfl) (by rw[World.cell?_alloc_at _ _ _ _ rfl];rfl) (by rw[World.cell?_alloc_at _ _ _ _ rfl];rfl) (by rw[World.cell?_alloc_at _ _ _ _ rfl];rfl) (HRC.out.below ((Ze _ _).alloc (Za _) _)));obtain⟨w2,hw2⟩:∃w2,w2=w1.alloc (.cells #[.int .i64 (v:Int),.bool (zc 1).neg,.slice an (zc 1).num.length cn,.slice ad (zc 1).den.length cd] 84):=⟨_,rfl⟩
 rw[<- hw2]at HX2 HB2 HF2;obtain⟨r0,r1,r2,r3,rf,rlt⟩:=HX2.out.bx;have HO:=hid (HF2.out.val.ret HX2.out.al HB2.out (Za _));obtain⟨x0,x1,x2,x3,xf,xlt⟩:=HX1.out.bx;generalize zbv v=R at *;rw[hw2,zfW xlt]at HO;clear HF2 HRC HX1 HX2 r0 r1 r2 r3 rf rlt;go_wp2;exact Zp (by simp[results,Tryz.results34,go_sem,x0,x1,x2,x3,xlt,Zbc xlt]) rfl HO.out
theorem zns{vq:Value}(hq:RatV w vq (zc q)):Calls Tryz.prog 88 #[vq] w (za2 w (zoP q)):=by
 obtain⟨p1,p2,p3,rfl,hrc⟩:=zbU.of hq;have hF:zaL w (.slice none 0 0) p1 p2 p3 (zoP q):=⟨⟨none,0,rfl,Za _,Zs _,.inl rfl⟩,hrc⟩
 obtain⟨an,ad,cn,cd,rfl,rfl,rfl,l1,l2,u1,u2⟩:=hrc.ex;have x2:=za4.alloc w (.bool (zc q).neg) (.slice an (zc q).num.length cn) (.slice ad (zc q).den.length cd) 51;have b2:=blA w (.cells #[.bool (zc q).neg,.slice an (zc q).num.length cn,.slice ad (zc q).den.length cd] 51);have s2:(w.alloc (.cells #[.bool (zc q).neg,.slice an (zc q).num.length cn,.slice ad (zc q).den.length cd] 51)).heap.size=w.heap.size+1:=Yc;obtain⟨W2,hW2⟩:∃W2,W2=w.alloc (.cells #[.bool (zc q).neg,.slice an (zc q).num.length cn,.slice ad (zc q).den.length cd] 51):=⟨_,rfl⟩
 rw[<- hW2]at x2 b2 s2;have x3:=zfo.alloc (za6 W2) 53;have b3:=blA W2 (.cells #[.slice none 0 0,.bool false,.slice none 0 0,.slice none 0 0] 53);obtain⟨W3,hW3⟩:∃W3,W3=W2.alloc (.cells #[.slice none 0 0,.bool false,.slice none 0 0,.slice none 0 0] 53):=⟨_,rfl⟩
 rw[<- hW3]at x3 b3;rw[s2]at x3;obtain⟨HX2,HX3,HB,HF,HWs⟩:=hd5 (x2.below b3) x3 (b2.trans (b3.mono b2.size)) (zaX.below (zaX.below hF b2) b3) hW3;rw[hW2]at HWs;clear x2 x3 b2 b3 s2 hW2 hW3 hF hq u1 u2 hrc
 go_enter Tryz.func88,Tryz.ntmps88
 go_upto_region 1 with fail
 rw[<- HWs.out];clear HWs;obtain⟨k0,k1,k2,kf,klt⟩:=HX2.out;obtain⟨r0,r1,r2,r3,rf,rlt⟩:=HX3.out.bx;have HO:=hid (HF.out.val.ret HX3.out.al HB.out Ya);generalize zoP q=R at *;go_wp2;exact Zp (by simp[results,Tryz.results88,go_sem,r0,r1,r2,r3]) rfl HO.out
theorem zaL.spell(h:zaL w p0 p1 p2 p3 f):∃a n c b an nn cn ad nd cd,p0=.slice a n c/\p1=.bool b/\p2=.slice an nn cn/\p3=.slice ad nd cd:=by
 obtain⟨⟨a,c,rfl,_,_⟩,hr⟩:=h;obtain⟨an,ad,cn,cd,rfl,rfl,rfl,_⟩:=hr.ex;exact⟨_,_,_,_,_,_,_,_,_,_,rfl,rfl,rfl,rfl⟩
theorem zap.spell{v:Value}(h:zap w v f):∃a n c b an nn cn ad nd cd,v=.agg #[.slice a n c,.bool b,.slice an nn cn,.slice ad nd cd]:=by
 obtain⟨p0,p1,p2,p3,rfl,k⟩:=h.ex;obtain⟨a,n,c,b,an,nn,cn,ad,nd,cd,rfl,rfl,rfl,rfl⟩:=k.spell;exact⟨a,n,c,b,an,nn,cn,ad,nd,cd,rfl⟩
theorem RatV.spell{v:Value}{x:zaf}(h:RatV w v x):∃b an nn cn ad nd cd,v=.agg #[.bool b,.slice an nn cn,.slice ad nd cd]:=by
 obtain⟨an,ad,cn,cd,rfl,_⟩:=h.ex;exact⟨_,_,_,_,_,_,_,rfl⟩
structure zdp where
 kd:Int
 fr:Int
 ot:Int
 kh:Int
 kw:Int
 st:Int
 pd:Int
 a1:Option Addr
 n1:Nat
 c1:Nat
 a2:Option Addr
 n2:Nat
 c2:Nat
 aS:Option Addr
 nS:Nat
 cS:Nat
 ax:Option Addr
 nx:Nat
 cx:Nat
 aT:Option Addr
 nT:Nat
 cT:Nat
 fu:Value
structure zaY (W:World) (g:Nat) (s:zdp):Prop where
 f0:W.cell? ⟨g,0,none⟩=some (.int .i64 s.kd)
 f1:W.cell? ⟨g,1,none⟩=some (.int .i64 s.fr)
 f2:W.cell? ⟨g,2,none⟩=some (.int .i64 s.ot)
 f3:W.cell? ⟨g,3,none⟩=some (.int .i64 s.kh)
 f4:W.cell? ⟨g,4,none⟩=some (.int .i64 s.kw)
 f5:W.cell? ⟨g,5,none⟩=some (.int .i64 s.st)
 f6:W.cell? ⟨g,6,none⟩=some (.int .i64 s.pd)
 f7:W.cell? ⟨g,7,none⟩=some (.slice s.a1 s.n1 s.c1)
 f8:W.cell? ⟨g,8,none⟩=some (.slice s.a2 s.n2 s.c2)
 f9:W.cell? ⟨g,9,none⟩=some (.slice s.aS s.nS s.cS)
 f10:W.cell? ⟨g,10,none⟩=some (.slice s.ax s.nx s.cx)
 f11:W.cell? ⟨g,11,none⟩=some (.slice s.aT s.nT s.cT)
 f12:W.cell? ⟨g,12,none⟩=some s.fu
 free:∀i,W.frozen? ⟨g,i,none⟩=false
 lt:g<W.heap.size
theorem zaY.belowB{s:zdp}(h:zaY W g s)(hb:Below B W W')(hg:g<B):zaY W' g s:=by
 obtain⟨f0,f1,f2,f3,f4,f5,f6,f7,f8,f9,f10,f11,f12,ff,lt⟩:=h;have k:=fun o=>hb.cell (p:=⟨g,o,none⟩) hg
 exact⟨(k 0).trans f0,(k 1).trans f1,(k 2).trans f2,(k 3).trans f3,(k 4).trans f4,(k 5).trans f5,(k 6).trans f6,(k 7).trans f7,(k 8).trans f8,(k 9).trans f9,(k 10).trans f10,(k 11).trans f11,(k 12).trans f12,
  fun i=>(hb.frozen hg).trans (ff i),Zb lt hb.size⟩
theorem zaY.below{s:zdp}(h:zaY W g s)(hb:Below W.heap.size W W'):zaY W' g s:=h.belowB hb h.lt
abbrev zoQ(w:World)(base:Nat)(v:Value)(L:List zl):Prop:=zdT zaL zco 53 w base v L
structure zi3 (w wr:World) (v:Value) (L:List zl):Prop where
 own:zoQ wr w.heap.size v L
 bl:Below w.heap.size w wr
theorem zi3.start(w:World):zi3 w w (.slice none 0 0) []:=⟨zdT.nil _ _,Ze _ _⟩
theorem zi3.below{v:Value}(h:zi3 w wr v L)(hb:Below wr.heap.size wr W):zi3 w W v L:=⟨h.own.below zaX hb,h.bl.trans (hb.mono h.bl.size)⟩
def zl9(w:World)(L:List zl)(e:Ending)(w':World):Prop:=∃a c,e=.returned (.slice a L.length c)/\zoQ w' w.heap.size (.slice a L.length c) L/\Below w.heap.size w w'
theorem zi3.ret{c:Nat}(h:zi3 w wr (.slice a n c) L)(hn:L.length=n):zl9 w L (.returned (.slice a n c)) wr:=by
 subst hn;exact⟨a,c,rfl,h.own,h.bl⟩
structure AcF (w wr:World) (g:Nat) (f:zl):Prop where
 ex:∃p0 p1 p2 p3,zfo wr g p0 p1 p2 p3 f
 bl:Below w.heap.size w wr
 ge:w.heap.size<=g
theorem AcF.below(h:AcF w wr g f)(hb:Below wr.heap.size wr W):AcF w W g f:=by
 obtain⟨p0,p1,p2,p3,k⟩:=h.ex;exact⟨⟨p0,p1,p2,p3,k.below hb⟩,h.bl.trans (hb.mono h.bl.size),h.ge⟩
theorem AcF.lt(h:AcF w wr g f):g<wr.heap.size:=by
 obtain⟨p0,p1,p2,p3,k⟩:=h.ex;exact k.bx.lt
theorem AcF.spell(h:AcF w wr g f):∃a n c b an nn cn ad nd cd,zfo wr g (.slice a n c) (.bool b) (.slice an nn cn) (.slice ad nd cd) f:=by
 obtain⟨p0,p1,p2,p3,k⟩:=h.ex;obtain⟨a,n,c,b,an,nn,cn,ad,nd,cd,rfl,rfl,rfl,rfl⟩:=k.fm.spell;exact⟨a,n,c,b,an,nn,cn,ad,nd,cd,k⟩
theorem AcF.step{k:zl}(h:AcF w wr g f)(hb:Below wr.heap.size wr W)(hk:zaL W q0 q1 q2 q3 k):
  AcF w ((((W.setCell ⟨g,0,none⟩ q0).setCell ⟨g,1,none⟩ q1).setCell ⟨g,2,none⟩ q2).setCell ⟨g,3,none⟩ q3) g k:=by
 obtain⟨p0,p1,p2,p3,hx⟩:=h.ex;exact⟨⟨_,_,_,_,(hx.below hb).set hk⟩,zcb (h.bl.trans (hb.mono h.bl.size)) h.ge _ _ _ _,h.ge⟩
theorem AcF.make{k:zl}(hb:Below w.heap.size w wr)(hw:Below wr.heap.size wr W)(hk:zaL W q0 q1 q2 q3 k)(T:Nat):AcF w (W.alloc (.cells #[q0,q1,q2,q3] T)) W.heap.size k:=
 ⟨⟨_,_,_,_,zfo.alloc hk T⟩,hb.trans ((hw.mono hb.size).alloc (Zi hb.size hw.size) _),Zi hb.size hw.size⟩
theorem zfp.form{w:World}{q0 q1 q2 q3:Value}{k:zl}(h:zaL w q0 q1 q2 q3 k)(T:Nat):zfp zaL (w.alloc (.cells #[q0,q1,q2,q3] T)) (.slice (some ⟨w.heap.size,0,none⟩) 1 1) k:=zfp.alloc zaX h T
def zsR(w:World)(L:List (List Int))(e:Ending)(w':World):Prop:=∃a c,e=.returned (.slice a L.length c)/\zbd w' (fun b=>w.heap.size<=b) a L/\Below w.heap.size w w'
def WnG(F:Nat->Prop)(V:Nat->Value)(A:List (List Int))(n:Nat)(e1 e2 e3:Value)(i:Nat)(v:Value)(w:World):Prop:=
 match i with
 | 24=>∃a c,v=.tuple #[.slice a n c,e1,e2,e3]/\zbd w F a A
 | 25=>∃a c,v=.tuple #[.slice a n c,e1,e2,e3]/\zbd w F a A
 | 26=>∃a c,v=.slice a n c/\zbd w F a A
 | 27=>v=e1
 | 28=>v=e2
 | 29=>v=e3
 | 30=>∃a c,v=.slice a n c/\zbd w F a A
 | 31=>v=e1
 | 32=>v=e2
 | 33=>v=e3
 | i=>v=V i
theorem zdf{V:Nat->Value}{A:List (List Int)}{e1 e2 e3:Value}{i:Nat}{v:Value}(h:WnG F V A n e1 e2 e3 i v w)(hb:Below w.heap.size w w'):WnG F V A n e1 e2 e3 i v w':=by
 unfold WnG at h⊢
 split at h
 ·exact EV
 ·exact EV
 ·exact EV
 ·exact h
 ·exact h
 ·exact h
 ·exact EV
 ·exact h
 ·exact h
 ·exact h
 ·exact h
theorem zii{S:zdp}{sh:List Int}(hL:zaY w gL S)(h1:sh.length=S.nS)(hS:zah w F S.aS sh):
  Calls Tryz.prog 90 #[.pointer (some ⟨gL,0,none⟩)] w (zsR w (zB sh S.kh S.kw S.st S.pd).1):=by
 have HSB:=hid hL;have HWn:Hid (∀X,Below w.heap.size w X->Calls Tryz.prog 131 #[.slice S.aS S.nS S.cS,.int .i64 S.kh,.int .i64 S.kw,.int .i64 S.st,.int .i64 S.pd] X (zcq X sh S.kh S.kw S.st S.pd)):=fun X hb=>by
  have h:=zuc S.cS S.kh S.kw S.st S.pd (hS.below hb);rw[h1]at h;exact h
 clear hS hL h1;generalize hwl:(zB sh S.kh S.kw S.st S.pd)=WL;have HWl:=hid hwl;clear hwl
 go_enter Tryz.func90,Tryz.ntmps90
 go_upto_region 1 with fail
 obtain⟨A,hA⟩:∃A,A=WL.1:=⟨_,rfl⟩
 obtain⟨e1,he1⟩:∃e1,e1=Value.int .i64 WL.2.1:=⟨_,rfl⟩
 obtain⟨e2,he2⟩:∃e2,e2=Value.int .i64 WL.2.2.1:=⟨_,rfl⟩
 obtain⟨e3,he3⟩:∃e3,e3=Value.int .i64 WL.2.2.2:=⟨_,rfl⟩
 have HE:=hid (And.intro hA (And.intro he1 (And.intro he2 he3)));clear hA he1 he2 he3
 refine zcN Yb Yb Yb (zoR w (WnG (fun b=>w.heap.size<=b) (fun i=>match i with|0=>.pointer (some ⟨gL,0,none⟩)|1=>.pointer (some ⟨gL,0,none⟩)|2=>.pointer (some ⟨gL,9,none⟩)|3=>.slice S.aS S.nS S.cS|4=>.pointer (some ⟨gL,0,none⟩)|5=>.pointer (some ⟨gL,0,none⟩)|6=>.pointer (some ⟨gL,0,none⟩)|7=>.pointer (some ⟨gL,3,none⟩)|8=>.int .i64 S.kh|9=>.pointer (some ⟨gL,0,none⟩)|10=>.pointer (some ⟨gL,0,none⟩)|11=>.pointer (some ⟨gL,0,none⟩)|12=>.pointer (some ⟨gL,4,none⟩)|13=>.int .i64 S.kw|14=>.pointer (some ⟨gL,0,none⟩)|15=>.pointer (some ⟨gL,0,none⟩)|16=>.pointer (some ⟨gL,0,none⟩)|17=>.pointer (some ⟨gL,5,none⟩)|18=>.int .i64 S.st|19=>.pointer (some ⟨gL,0,none⟩)|20=>.pointer (some ⟨gL,0,none⟩)|21=>.pointer (some ⟨gL,0,none⟩)|22=>.pointer (some ⟨gL,6,none⟩)|23=>.int .i64 S.pd|_=>.bool false) A A.length e1 e2 e3)) (fun g=>zoR.start g) ?_ ?_
 ·intro ops;simp only[zc1]
  refine⟨?v0,?_,?_,?_,?v4,?_,?_,?_,?_,?v9,?_,?_,?_,?_,?v14,?_,?_,?_,?_,?v19,?_,?_,?_,?_,?_,?_,?_,?v27,?v28,?v29,?_,?_,?_,?_,trivial⟩
  all_goals (intro d g W hJ hd hW;have hJB:=hJ.be;obtain⟨f0,f1,f2,f3,f4,f5,f6,f7,f8,f9,f10,f11,f12,ff,glt⟩:=HSB.out.below hJ.be;simp only[zaE,Region.binds,ZB,Zn,Zx,Z0,Z6]at hW)
  case v0|v4|v9|v14|v19=>
   simp[ze,Act.put];have HJ:=hid hJ;clear hJ hd hW;exact Uq
  case v27|v28|v29=>
   have h25:d 25=true:=Ye;have J25:=hJ.all 25 h25;simp only[WnG]at J25;simp[ze,Act.put];generalize hg25:g 25=y25;rw[hg25]at J25;obtain⟨a7,c7,rfl,H7⟩:=J25;have HJ:=hid hJ;clear hJ hd hW h25;clear H7;exact Uq
  ·have h0:d 0=true:=Ye;have J0:=hJ.all 0 h0;simp only[WnG]at J0;simp[ze,Act.put];generalize hg0:g 0=y0;rw[hg0]at J0;obtain rfl:=J0;have HJ:=hid hJ;clear hJ hd hW h0;exact Uq
  ·have h1:d 1=true:=Ye;have J1:=hJ.all 1 h1;simp only[WnG]at J1;simp[ze,Act.put];generalize hg1:g 1=y1;rw[hg1]at J1;obtain rfl:=J1;have HJ:=hid hJ;clear hJ hd hW h1;exact Uq
  ·have h2:d 2=true:=Ye;have J2:=hJ.all 2 h2;simp only[WnG]at J2;simp[ze,Act.put];generalize hg2:g 2=y2;rw[hg2]at J2;obtain rfl:=J2;have HJ:=hid hJ;clear hJ hd hW h2;exact Uq
  ·have h4:d 4=true:=Ye;have J4:=hJ.all 4 h4;simp only[WnG]at J4;simp[ze,Act.put];generalize hg4:g 4=y4;rw[hg4]at J4;obtain rfl:=J4;have HJ:=hid hJ;clear hJ hd hW h4;exact Uq
  ·have h5:d 5=true:=Ye;have J5:=hJ.all 5 h5;simp only[WnG]at J5;simp[ze,Act.put];generalize hg5:g 5=y5;rw[hg5]at J5;obtain rfl:=J5;have HJ:=hid hJ;clear hJ hd hW h5;exact Uq
  ·have h6:d 6=true:=Ye;have J6:=hJ.all 6 h6;simp only[WnG]at J6;simp[ze,Act.put];generalize hg6:g 6=y6;rw[hg6]at J6;obtain rfl:=J6;have HJ:=hid hJ;clear hJ hd hW h6;exact Uq
  ·have h7:d 7=true:=Ye;have J7:=hJ.all 7 h7;simp only[WnG]at J7;simp[ze,Act.put];generalize hg7:g 7=y7;rw[hg7]at J7;obtain rfl:=J7;have HJ:=hid hJ;clear hJ hd hW h7;exact Uq
  ·have h9:d 9=true:=Ye;have J9:=hJ.all 9 h9;simp only[WnG]at J9;simp[ze,Act.put];generalize hg9:g 9=y9;rw[hg9]at J9;obtain rfl:=J9;have HJ:=hid hJ;clear hJ hd hW h9;exact Uq
  ·have h10:d 10=true:=Ye;have J10:=hJ.all 10 h10;simp only[WnG]at J10;simp[ze,Act.put];generalize hg10:g 10=y10;rw[hg10]at J10;obtain rfl:=J10;have HJ:=hid hJ;clear hJ hd hW h10;exact Uq
  ·have h11:d 11=true:=Ye;have J11:=hJ.all 11 h11;simp only[WnG]at J11;simp[ze,Act.put];generalize hg11:g 11=y11;rw[hg11]at J11;obtain rfl:=J11;have HJ:=hid hJ;clear hJ hd hW h11;exact Uq
  ·have h12:d 12=true:=Ye;have J12:=hJ.all 12 h12;simp only[WnG]at J12;simp[ze,Act.put];generalize hg12:g 12=y12;rw[hg12]at J12;obtain rfl:=J12;have HJ:=hid hJ;clear hJ hd hW h12;exact Uq
  ·have h14:d 14=true:=Ye;have J14:=hJ.all 14 h14;simp only[WnG]at J14;simp[ze,Act.put];generalize hg14:g 14=y14;rw[hg14]at J14;obtain rfl:=J14;have HJ:=hid hJ;clear hJ hd hW h14;exact Uq
  ·have h15:d 15=true:=Ye;have J15:=hJ.all 15 h15;simp only[WnG]at J15;simp[ze,Act.put];generalize hg15:g 15=y15;rw[hg15]at J15;obtain rfl:=J15;have HJ:=hid hJ;clear hJ hd hW h15;exact Uq
  ·have h16:d 16=true:=Ye;have J16:=hJ.all 16 h16;simp only[WnG]at J16;simp[ze,Act.put];generalize hg16:g 16=y16;rw[hg16]at J16;obtain rfl:=J16;have HJ:=hid hJ;clear hJ hd hW h16;exact Uq
  ·have h17:d 17=true:=Ye;have J17:=hJ.all 17 h17;simp only[WnG]at J17;simp[ze,Act.put];generalize hg17:g 17=y17;rw[hg17]at J17;obtain rfl:=J17;have HJ:=hid hJ;clear hJ hd hW h17;exact Uq
  ·have h19:d 19=true:=Ye;have J19:=hJ.all 19 h19;simp only[WnG]at J19;simp[ze,Act.put];generalize hg19:g 19=y19;rw[hg19]at J19;obtain rfl:=J19;have HJ:=hid hJ;clear hJ hd hW h19;exact Uq
  ·have h20:d 20=true:=Ye;have J20:=hJ.all 20 h20;simp only[WnG]at J20;simp[ze,Act.put];generalize hg20:g 20=y20;rw[hg20]at J20;obtain rfl:=J20;have HJ:=hid hJ;clear hJ hd hW h20;exact Uq
  ·have h21:d 21=true:=Ye;have J21:=hJ.all 21 h21;simp only[WnG]at J21;simp[ze,Act.put];generalize hg21:g 21=y21;rw[hg21]at J21;obtain rfl:=J21;have HJ:=hid hJ;clear hJ hd hW h21;exact Uq
  ·have h22:d 22=true:=Ye;have J22:=hJ.all 22 h22;simp only[WnG]at J22;simp[ze,Act.put];generalize hg22:g 22=y22;rw[hg22]at J22;obtain rfl:=J22;have HJ:=hid hJ;clear hJ hd hW h22;exact Uq
  ·have h3:d 3=true:=Ye;have h8:d 8=true:=Ye;have h13:d 13=true:=Ye;have h18:d 18=true:=Ye;have h23:d 23=true:=Ye;have J3:=hJ.all 3 h3;have J8:=hJ.all 8 h8;have J13:=hJ.all 13 h13;have J18:=hJ.all 18 h18;have J23:=hJ.all 23 h23;simp only[WnG]at J3 J8 J13 J18 J23;simp[ze,Act.put];generalize hg3:g 3=y3;rw[hg3]at J3;generalize hg8:g 8=y8;rw[hg8]at J8;generalize hg13:g 13=y13;rw[hg13]at J13;generalize hg18:g 18=y18;rw[hg18]at J18;generalize hg23:g 23=y23;rw[hg23]at J23;obtain rfl:=J3;obtain rfl:=J8;obtain rfl:=J13;obtain rfl:=J18;obtain rfl:=J23;have HJ:=hid hJ;clear hJ hd hW h3 h8 h13 h18 h23;have HCt:=hid (HWn.out W hJB)
   go_wp2_with fail
   refine HCt.out.mono ?_
   rintro e w1 ⟨a',c',rfl,hI,kb⟩;have KB:=hid kb;rw[HWl.out]at hI⊢;obtain⟨hA,he1,he2,he3⟩:=HE.out;rw[<- hA]at hI⊢;rw[<- he1,<- he2,<- he3];have HI:=hid (hI.mono (fun b _ h=>Zi hJB.size h));clear hI hA he1 he2 he3;clear kb HCt;go_wp2
   first|exact⟨_,rfl,HJ.out.step (fun i v w w' h hb=>zdf h hb) KB.out ⟨_,_,rfl,HI.out⟩⟩|exact HJ.out.step (fun i v w w' h hb=>zdf h hb) KB.out ⟨_,_,rfl,HI.out⟩
  ·have h24:d 24=true:=Ye;have J24:=hJ.all 24 h24;simp only[WnG]at J24;simp[ze,Act.put];generalize hg24:g 24=y24;rw[hg24]at J24;obtain⟨a6,c6,rfl,H6⟩:=J24;have HJ:=hid hJ;clear hJ hd hW h24;have K6:=hid H6;clear H6;go_wp2
   first|refine⟨_,rfl,?_⟩|refine⟨rfl,_,?_⟩|skip
   exact HJ.out.here (fun i v w w' h hb=>zdf h hb) ⟨_,_,rfl,K6.out⟩
  ·have h25:d 25=true:=Ye;have J25:=hJ.all 25 h25;simp only[WnG]at J25;simp[ze,Act.put];generalize hg25:g 25=y25;rw[hg25]at J25;obtain⟨a7,c7,rfl,H7⟩:=J25;have HJ:=hid hJ;clear hJ hd hW h25;have K7:=hid H7;clear H7;go_wp2
   first|refine⟨_,rfl,?_⟩|refine⟨rfl,_,?_⟩|skip
   exact HJ.out.here (fun i v w w' h hb=>zdf h hb) ⟨_,_,rfl,K7.out⟩
  ·have h26:d 26=true:=Ye;have J26:=hJ.all 26 h26;simp only[WnG]at J26;simp[ze,Act.put];generalize hg26:g 26=y26;rw[hg26]at J26;obtain⟨a8,c8,rfl,H8⟩:=J26;have HJ:=hid hJ;clear hJ hd hW h26;have K8:=hid H8;clear H8;go_wp2
   first|refine⟨_,rfl,?_⟩|refine⟨rfl,_,?_⟩|skip
   exact HJ.out.here (fun i v w w' h hb=>zdf h hb) ⟨_,_,rfl,K8.out⟩
  ·have h27:d 27=true:=Ye;have J27:=hJ.all 27 h27;simp only[WnG]at J27;simp[ze,Act.put];generalize hg27:g 27=y27;rw[hg27]at J27;obtain rfl:=J27;have HJ:=hid hJ;clear hJ hd hW h27;exact Uq
  ·have h28:d 28=true:=Ye;have J28:=hJ.all 28 h28;simp only[WnG]at J28;simp[ze,Act.put];generalize hg28:g 28=y28;rw[hg28]at J28;obtain rfl:=J28;have HJ:=hid hJ;clear hJ hd hW h28;exact Uq
  ·have h29:d 29=true:=Ye;have J29:=hJ.all 29 h29;simp only[WnG]at J29;simp[ze,Act.put];generalize hg29:g 29=y29;rw[hg29]at J29;obtain rfl:=J29;have HJ:=hid hJ;clear hJ hd hW h29;exact Uq
 ·intro d g W hA hJ;have J30:=hJ.all 30 (hA 30 Yd);have HBe:=hid hJ.be;simp only[WnG]at J30;simp[ze,Act.put];generalize g 30=y30 at J30⊢;obtain⟨a9,c9,rfl,H9⟩:=J30;clear hJ hA;have K9:=hid H9;clear H9;go_wp2;exact Zp (v:=.slice a9 A.length c9) (by simp[results,Tryz.results90,go_sem]) rfl (show zsR w WL.1 _ _ from by rw[<- HE.out.1];exact⟨a9,c9,rfl,K9.out,HBe.out⟩)
def zfz(bs ws:List Rat)(x:List zl)(r:Nat):zl:=zdq (bs.getD r 0) ws (r*x.length) (zbq x.length) x x.length
def zet(k:Nat)(bs ws:List Rat)(x:List zl):List zl:=(List.range k).map (zfz bs ws x)
theorem zkm(k:Nat)(bs ws:List Rat)(x:List zl):zet (k+1) bs ws x=zet k bs ws x++[zfz bs ws x k]:=by simp[zet,Zab]
theorem zfw(k:Nat)(bs ws:List Rat)(x:List zl):(zet k bs ws x).length=k:=by simp[zet]
theorem znt{b:Rat}{off k:Nat}(h:k<x.length):zdq b ws off (zbq x.length) x (k+1)=zbi 1 (zdq b ws off (zbq x.length) x k) (scA (ws.getD (off+k) 0) (x.getD k zcB)):=by
 have e:=zk9 h;show(if 0<=(zbq x.length).getD k 0 then _ else _)=_
 rw[e,Zm Ya];rfl
theorem zsP{S:zdp}{bs:List Rat}{W:Nat}(hL:zaY w gL S)(h1:ws.length=S.n1)(h2:bs.length=S.n2)(h3:x.length=S.nx)
 (hW:zm w S.a1 (ws.map zc))(hB:zm w S.a2 (bs.map zc))(hX:zaz w S.ax x)(hwl:S.n2*S.nx<=S.n1)(hN1:S.n1<=1000000)(hN2:S.n2<=1000000)(hNx:S.nx<=1000000)
 (bw:BdL W C ws)(bb:BdL W C bs)(hW0:0<W)(bx:zcp D B N x)(hD0:0<D)(hP:Pay (W*D) (C+B+(S.nx+1)*(C*B)))(hN:N<=500000):
  Calls Tryz.prog 55 #[.pointer (some ⟨gL,0,none⟩)] w (zl9 w (zet S.n2 bs ws x)):=by
 obtain⟨HW,HBi,HX,H1,H2,H3⟩:=hd6 hW hB hX h1 h2 h3;obtain⟨Hwl,HSB,HBw,HBb,HBx,HPy⟩:=hd6 hwl hL bw bb bx hP;clear hW hB hX hwl h1 h2 h3 hL bw bb bx hP
 go_enter Tryz.func55,Tryz.ntmps55
 go_upto_region 2 with fail
 obtain⟨f0,f1,f2,f3,f4,f5,f6,f7,f8,f9,f10,f11,f12,ff,glt⟩:=HSB.out;go_wp2;clear f0 f1 f2 f3 f4 f5 f6 f7 f8 f9 f10 f11 f12 ff glt
 go_loopw [3,15] (fun v i wr=>∃(r:Nat) (a:Option Addr) (c:Nat),r<=S.n2/\v=.slice a r c/\i=.int .i64 (r:Int)/\Hid (zi3 w wr (.slice a r c) (zet r bs ws x))) (fun _ i _=>S.n2-(intOf i).toNat)
 case atStart=>exact⟨0,none,0,Zs _,rfl,rfl,zi3.start w⟩
 case round=>
  obtain⟨r,b0,k0,hr,rfl,rfl,HOut⟩:=hrel;obtain⟨wq,hwq⟩:∃wq:World,wq=wr:=⟨_,rfl⟩
  subst hwq
  by_cases hlt:r<S.n2
  ·have hbr:Below w.heap.size w wq:=HOut.out.bl;obtain⟨bb,ob,u,un,ud,ucn,ucd,hab,hbb,hu,uc0,uc1,uc2,huv⟩:=HBi.out.pick (k:=r) JW;obtain⟨hu1,hu2⟩:=za5 hu;have uc0:=(hbr.cell (p:=⟨bb,ob+r*3,none⟩) hbb).trans uc0;have uc1:=(hbr.cell (p:=⟨bb,ob+r*3+1,none⟩) hbb).trans uc1;have uc2:=(hbr.cell (p:=⟨bb,ob+r*3+2,none⟩) hbb).trans uc2;have hbb2:=Zb hbb hbr.size;have hal1:=blA wq (zbb u un ucn ud ucd 51);have ub:=za4.alloc wq (.bool u.neg) (.slice un u.num.length ucn) (.slice ud u.den.length ucd) 51;obtain⟨HNum,HOut1,Hu2⟩:=hd3 (zns (q:=bs.getD r 0) (show RatV _ _ (zc (bs.getD r 0))from by have h:=(huv.below hbr).below hal1;rw[hu2]at h;rw[<- hu2]at h⊢;exact h)) (HOut.out.below hal1) hu2;rw[hab];clear hu hu1 hu2 huv hbr hal1 hab
   go_upto_region 5 with fail
   generalize wq.alloc (zbb u un ucn ud ucd 51)=Wg at *;clear uc0 uc1 uc2;obtain⟨u0,u1,u2,uf,ult⟩:=ub
   go_wp2_with fail
   refine HNum.out.mono ?_
   rintro e w5 ⟨v5,rfl,hv,hb⟩;obtain⟨na,nn,nc,nb,nan,nnn,ncn,nad,nnd,ncd,rfl⟩:=hv.spell;obtain⟨HOut2,HNF⟩:=hd2 (HOut1.out.below hb) hv.fp;clear HNum hv hb u0 u1 u2 uf ult HOut1;have HAc:=hid (AcF.make (Ze w5.heap.size w5) (Ze w5.heap.size w5) HNF.out 53);have hbl5:=HAc.out.bl;have HSn:=hid (HSB.out.below (HOut2.out.below hbl5).bl);clear hbl5
   go_upto_region 6 with fail
   generalize w5.alloc (.cells #[.slice na nn nc,.bool nb,.slice nan nnn ncn,.slice nad nnd ncd] 53)=Wh at *;have f10:=HSn.out.f10;have ff:=HSn.out.free;have glt:=HSn.out.lt;go_wp2;clear f10 ff glt
   go_loopw [27] (fun i wi=>∃k:Nat,k<=S.nx/\i=.int .i64 (k:Int)/\Hid (AcF w5 wi w5.heap.size (zdq (bs.getD r 0) ws (r*S.nx) (zbq S.nx) x k))) (fun i _=>S.nx-(intOf i).toNat)
   case atStart=>exact⟨0,Zs _,rfl,HAc.out⟩
   case round=>
    obtain⟨k,hk,rfl,HI⟩:=hrel
    by_cases hlk:k<S.nx
    ·obtain⟨p0,hp0⟩:∃p0,p0=r*S.nx:=⟨_,rfl⟩
     have hmul:p0+k<S.n1:=by
      have e1:(r+1)*S.nx<=S.n2*S.nx:=Zl _ hlt;have e2:=Hwl.out;rw[Zac,<- hp0]at e1;omega
     have hbi:Below w.heap.size w wr:=(HOut2.out.below HI.out.bl).bl;obtain⟨bw,ow,v,vn,vd,vcn,vcd,haw,hbw,hv,wc0,wc1,wc2,hwv⟩:=HW.out.pick (k:=p0+k) JL;obtain⟨bx,ox,y,q0,q1,q2,q3,hax,hbx,hyy,yc0,yc1,yc2,yc3,hyv⟩:=HX.out.pick (k:=k) KQ;obtain⟨ya,yn,yc,yb,yan,ynn,ycn,yad,ynd,ycd,rfl,rfl,rfl,rfl⟩:=hyv.spell;obtain⟨hv1,hv2⟩:=za5 hv;have hxk:x.getD k zcB=y:=by rw[Zd,hyy];rfl
     obtain⟨s,hs⟩:∃s,s=zdq (bs.getD r 0) ws (r*S.nx) (zbq S.nx) x k:=⟨_,rfl⟩
     obtain⟨s1,hs1⟩:∃s1,s1=zdq (bs.getD r 0) ws (r*S.nx) (zbq S.nx) x (k+1):=⟨_,rfl⟩
     obtain⟨pr,hpr⟩:∃pr,pr=scA (ws.getD (p0+k) 0) y:=⟨_,rfl⟩
     have hq:zbi 1 s pr=s1:=by
      rw[hs,hpr,hs1,<- hxk];have h:=znt (b:=bs.getD r 0) (ws:=ws) (off:=r*S.nx) (k:=k) (x:=x) KQ;rw[H3.out,<- hp0]at h;rw[<- hp0,h]
     have HI1:=HI.out;rw[<- hs]at HI1;have hal:=blA wr (.cells #[.slice ya yn yc,.bool yb,.slice yan ynn ycn,.slice yad ynd ycd] 53);obtain⟨HI2,HYb,HBj⟩:=hd3 (HI1.below hal) (zbl.alloc wr (.slice ya yn yc) (.bool yb) (.slice yan ynn ycn) (.slice yad ynd ycd) 53) (hbi.trans (hal.mono hbi.size));have HSj:=hid (HSB.out.below HBj.out);have hgl:w5.heap.size<wr.heap.size:=HI1.lt;obtain⟨HS1,HHs,HHpr,HHv,HHq,Hyb⟩:=hd6 hs1 hs hpr (And.intro hv1 hv2) hq (show BdF D B N y from by rw[<- hxk];exact HBx.out.at hD0 k);have m0:IntKind.i64.wrap ((r:Int)*(S.nx:Int))=(p0:Int):=Ty;obtain⟨hyv',hwv'⟩:=hd2 hyv.val hwv;have uy0:=(hbi.cell (p:=⟨bx,ox+k*4,none⟩) hbx).trans yc0;have uy1:=(hbi.cell (p:=⟨bx,ox+k*4+1,none⟩) hbx).trans yc1;have uy2:=(hbi.cell (p:=⟨bx,ox+k*4+2,none⟩) hbx).trans yc2;have uy3:=(hbi.cell (p:=⟨bx,ox+k*4+3,none⟩) hbx).trans yc3;have hbx2:=Zb hbx hbi.size;have HHp0:=hid hp0;rw[hax];clear HI1 hv1 hv2 hyy hs hs1 hpr hq hal hv hyv hwv hp0 hbi hxk
     go_upto_region 9 with fail
     generalize wr.alloc (.cells #[.slice ya yn yc,.bool yb,.slice yan ynn ycn,.slice yad ynd ycd] 53)=wj at *;obtain⟨sa,sn,sc,sb,san,snn,scn,sad,snd,scd,hbxs⟩:=HI2.out.spell;have HSf:=hid hbxs.fm.val;have HMul:Hid (∀W',Below wj.heap.size wj W'->Calls Tryz.prog 89 #[.agg #[.slice ya yn yc,.bool yb,.slice yan ynn ycn,.slice yad ynd ycd],.agg #[.bool v.neg,.slice vn v.num.length vcn,.slice vd v.den.length vcd]] W' (za2 W' pr)):=fun W' hb=>by
      have hbw2:=HBj.out.trans (hb.mono HBj.out.size);exact El
     have HAdd:Hid (∀W',Below wj.heap.size wj W'->∀z,zap W' z pr->Calls Tryz.prog 60 #[.agg #[.slice sa sn sc,.bool sb,.slice san snn scn,.slice sad snd scd],z] W' (za2 W' s1)):=fun W' hb z hz=>by
      rw[<- HHq.out]
      refine zr9 (HSf.out.below hb) hz (B:=C+k*(C*B)) (C:=C*B) (D:=W*D) (N:=N) ?_ ?_ (HPy.out.le (Za _) ?_) hN
      ·rw[HHs.out];exact BdF.sum (HBb.out.at hW0 _) HBw.out HBx.out hD0 _ _ _
      ·rw[HHpr.out];exact BdF.sc (HBw.out.at hW0 _) Hyb.out
      ·have:(k+1)*(C*B)<=S.nx*(C*B):=Zl _ hlk;rw[Zac]at this⊢;omega
     have HCe:Hid (∀W',Below wj.heap.size wj W'->W'.cell? ⟨w5.heap.size,0,none⟩=some (.slice sa sn sc)/\W'.cell? ⟨w5.heap.size,1,none⟩=some (.bool sb)/\W'.cell? ⟨w5.heap.size,2,none⟩=some (.slice san snn scn)/\W'.cell? ⟨w5.heap.size,3,none⟩=some (.slice sad snd scd)/\
       W'.cell? ⟨gL,7,none⟩=some (.slice (some ⟨bw,ow,none⟩) S.n1 S.c1)/\W'.cell? ⟨gL,10,none⟩=some (.slice (some ⟨bx,ox,none⟩) S.nx S.cx)/\
       W'.cell? ⟨bw,ow+(p0+k)*3,none⟩=some (.bool v.neg)/\W'.cell? ⟨bw,ow+(p0+k)*3+1,none⟩=some (.slice vn v.num.length vcn)/\W'.cell? ⟨bw,ow+(p0+k)*3+2,none⟩=some (.slice vd v.den.length vcd)/\
       W'.cell? ⟨wr.heap.size,0,none⟩=some (.slice ya yn yc)/\W'.cell? ⟨wr.heap.size,1,none⟩=some (.bool yb)/\W'.cell? ⟨wr.heap.size,2,none⟩=some (.slice yan ynn ycn)/\W'.cell? ⟨wr.heap.size,3,none⟩=some (.slice yad ynd ycd)):=fun W' hb=>by
      have hbw2:=HBj.out.trans (hb.mono HBj.out.size);have g7:=(HSj.out.below hb).f7;have g10:=(HSj.out.below hb).f10;rw[haw]at g7;rw[hax]at g10;exact⟨(hb.cell hbxs.bx.lt).trans hbxs.bx.c0,(hb.cell hbxs.bx.lt).trans hbxs.bx.c1,(hb.cell hbxs.bx.lt).trans hbxs.bx.c2,(hb.cell hbxs.bx.lt).trans hbxs.bx.c3,g7,g10,(hbw2.cell hbw).trans wc0,(hbw2.cell hbw).trans wc1,(hbw2.cell hbw).trans wc2,
       (hb.cell HYb.out.lt).trans HYb.out.c0,(hb.cell HYb.out.lt).trans HYb.out.c1,(hb.cell HYb.out.lt).trans HYb.out.c2,(hb.cell HYb.out.lt).trans HYb.out.c3⟩
     have hs0:=hbxs.bx.lt;have hs9:=HYb.out.lt;clear wc0 wc1 wc2 yc0 yc1 yc2 yc3 uy0 uy1 uy2 uy3 hbxs
     refine zj 20 Yb Yb Yb Yb Yd (zbZ wj.heap.size wj) (fun w w'=>Below w.heap.size w w') (GQ [.val (.agg #[.slice sa sn sc,.bool sb,.slice san snn scn,.slice sad snd scd]),.val (.agg #[.slice ya yn yc,.bool yb,.slice yan ynn ycn,.slice yad ynd ycd]),.val (.pointer (some ⟨gL,0,none⟩)),.val (.pointer (some ⟨gL,0,none⟩)),.val (.pointer (some ⟨gL,0,none⟩)),.val (.pointer (some ⟨gL,7,none⟩)),.val (.slice (some ⟨bw,ow,none⟩) S.n1 S.c1),.val (.int .i64 (r:Int)),.val (.pointer (some ⟨gL,0,none⟩)),.val (.pointer (some ⟨gL,0,none⟩)),.val (.pointer (some ⟨gL,10,none⟩)),.val (.slice (some ⟨bx,ox,none⟩) S.nx S.cx),.val (.int .i64 (S.nx:Int)),.val (.int .i64 (p0:Int)),.val (.int .i64 (k:Int)),.val (.int .i64 ((p0:Int)+(k:Int))),.val (.pointer (some ⟨bw,ow+(p0+k)*3,none⟩)),.val (.agg #[.bool v.neg,.slice vn v.num.length vcn,.slice vd v.den.length vcd]),.frm pr,.frm s1]) (fun i v w w' h hb=>zaV h hb) (zbZ.start (Za _)) ?_ ?_
     ·intro ops;simp only[Zo,Zw,zbR]
      refine⟨?v0,?v1,?v2,?v3,?v4,?v5,?v6,?v7,?v8,?v9,?v10,?v11,?v12,?v13,?v14,?v15,?v16,?v17,?_,?_,trivial⟩
      all_goals (intro y' X hR hL;have hB:=hR.base;obtain⟨x0,x1,x2,x3,f7,f10,wc0,wc1,wc2,yc0,yc1,yc2,yc3⟩:=HCe.out X hR.be;simp only[zdt,Region.binds,ZB,Zn,Zx,GQ,Zf,Zc]at hL;simp[ze,Act.put])
      case v0|v1|v2|v3|v4|v5|v6|v7|v8|v9|v10|v11|v12|v13|v14|v15|v16|v17=>
       exact Ut
      ·exact Oh
      ·generalize y' 0=y0 at hL⊢;generalize y' 18=y18 at hL⊢;obtain⟨rfl,H18,_,_⟩:=hL;obtain⟨K18,HR⟩:=hd2 H18 hR;clear hR H18;have HCt:=hid (HAdd.out X HR.out.be _ K18.out);exact Um
     ·intro ops y' X hR hL;have hB:=hR.base;have J19:=hL.2;simp only[GQ,Zf,Zc]at J19;obtain⟨x0,x1,x2,x3,f7,f10,wc0,wc1,wc2,yc0,yc1,yc2,yc3⟩:=HCe.out X hR.be;clear hL;simp only[Zo,Zw,ZG,ZO];simp[ze,Act.put];generalize y' 19=y19 at J19⊢;have HR:=hid hR;clear hR;obtain⟨ra,rn,rc,rb,ran,rnn,rcn,rad,rnd,rcd,rfl⟩:=J19.spell;have HBe:=hid (show Below wj.heap.size wj X from HR.out.be);have HStep:=hid (HI2.out.step HBe.out J19.fp);obtain⟨_,_,_,_,hbz⟩:=(HI2.out.below HBe.out).ex;obtain⟨z0,z1,z2,z3,zf,zlt⟩:=hbz.bx;clear J19 hbz;exact E5
    ·obtain rfl:k=S.nx:=Ya;obtain⟨s,hs⟩:∃s,s=zfz bs ws x r:=⟨_,rfl⟩
     have hbx:AcF w5 wr w5.heap.size s:=by
      have h:=HI.out;rw[hs,show zfz bs ws x r=zdq (bs.getD r 0) ws (r*S.nx) (zbq S.nx) x S.nx by unfold zfz;rw[H3.out]];exact h
     have HStep:Hid _:=zkm r bs ws x;rw[<- hs]at HStep;obtain⟨sa,sn,sc,sb,san,snn,scn,sad,snd,scd,hbxs⟩:=hbx.spell;have HRow:=hid (zfp.form hbxs.fm 53);obtain⟨x0,x1,x2,x3,_,xlt⟩:=hbxs.bx;obtain⟨HOw,HLn⟩:=hd2 ((HOut2.out.below hbx.bl).below ((Ze wr.heap.size wr).alloc (Za _) (.cells #[.slice sa sn sc,.bool sb,.slice san snn scn,.slice sad snd scd] 53))) (zfw r bs ws x);clear hbx hbxs hs
     go_wp2_with (at_builtin;refine apF rfl (.tmp 53) (.tmp 55) rfl w.heap.size (.slice b0 r k0) r _ HLn.out rfl HOw.out.own _ s HRow.out rfl Ya HOw.out.bl.size ?_;intro b3 k3 w3 hown hk3 hg hbe hnx;have HOut3:=hid (show zi3 w w3 (.slice b3 (r+1) k3) (zet (r+1) bs ws x)from⟨YG,HOw.out.bl.trans hbe⟩);clear hown hg hbe hnx)
     go_roundw
     case rel=>exact⟨r+1,b3,k3,hlt,rfl,Yg,HOut3.out⟩
     case measure=>simp[intOf];omega
  ·obtain rfl:r=S.n2:=Ya;go_wp2;exact Zp (v:=.slice b0 S.n2 k0) (by simp[results,Tryz.results55,go_sem]) rfl (HOut.out.ret (zfw S.n2 bs ws x))
