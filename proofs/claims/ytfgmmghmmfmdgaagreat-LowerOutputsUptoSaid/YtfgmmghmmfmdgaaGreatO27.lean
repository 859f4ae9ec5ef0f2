/-
  Contracts: ModQ, ModS, ModT, ModU, ModV, EvO, PvG, PvH, LwC, LwG, LinJ, LjF, LjG, LjH, LjI, LjK, LjL, LjM.
-/
import Derived.Test.YtfgmmghmmfmdgaaGreatO23
import Derived.Test.YtfgmmghmmfmdgaaGreatO24
import Derived.Test.YtfgmmghmmfmdgaaGreatO25
import Derived.Test.YtfgmmghmmfmdgaaGreatO26
import Derived.Test.YtfgmmghmmfmdgaaGreatO0
set_option linter.all false
set_option maxRecDepth 100000
set_option maxHeartbeats 3200000
namespace Go.Proofs.YtfgmmghmmfmdgaaGreat
open Go.RowKit
open Go.Lib (hid)
theorem Oy{P:Prop}(h:P:=by
 rcases ho.2 with⟨e,h0⟩|⟨g,cap,cur,e,hb,hg,hnc,hcm,hcs,htake⟩
 ·exact⟨hl,.inl (Zy Ya)⟩
 exact UJ
):P:=h
theorem O6{P:Prop}(h:P:=by have HF:Hid (RR=([],1)):=YI;clear hok;exact Tx):P:=h
theorem Uo{P:Prop}(h:P:=by
 clear hk
 by_cases hE:zE=0
 ·have t1:(zE != 0)=false:=V8;have t2:(zE==0)=true:=V8;have t3:decide (¬ zE=0)=false:=KR
  go_wp2_with fail
  refine HWin.out.mono ?_
  rintro e w2 ⟨⟨aw,cw,rfl⟩,hb2⟩;have HB2:=htr HB1 hb2;have HX2:=hid (HX1.out.below hb2);have hc2:=(hb2.cell (p:=⟨bs,os,none⟩) HCl.out).trans HC0.out;have hl2:bs<w2.heap.size:=Zb HCl.out hb2.size;clear hb2 x0 x1 x2 x3 x4 x5 x6 x7 x8 xlt;obtain⟨x0,x1,x2,x3,x4,x5,x6,x7,x8,xlt⟩:=HX2.out;have f0:=zz x0 xlt;have f2:=zz x2 xlt;have f3:=zz x3 xlt;have f4:=zz x4 xlt;have f7:=zz x7 xlt;have fs:=zz hc2 hl2;have HHE:=hid hE;clear hE;have HF:Hid (RR=zoS [s0,zR,zC]):=zen (r:=([s0,zR,zC],decide (zE=0))) (Zk HHE.out) HRe.out;have HAl3:Hid (∀W:World,zah (W.alloc (.cells #[.int .i64 s0,.int .i64 zR,.int .i64 zC] 3)) Any (some ⟨W.heap.size,0,none⟩) [s0,zR,zC]):=fun W=>zeA W s0 zR zC _ ⟨s1,s2⟩ ⟨Ya,Ya⟩ ⟨Ya,Ya⟩
  clear HRe;go_wp2
  refine zx Yb Yb ?_
  repeat (go_big_quiet_step (fail))
  refine wpQuiet_nil ?_
  intro _ hw';obtain⟨nq,hw''⟩:=hw';subst hw'';obtain⟨HB3,HX3⟩:=hd2 (HB2.out.trans ((zF w2 nq).mono HB2.out.size)) (HX2.out.below (zF w2 nq));have hc3:=((zF w2 nq).cell (p:=⟨bs,os,none⟩) hl2).trans hc2;clear f0 f2 f3 f4 f7 fs x0 x1 x2 x3 x4 x5 x6 x7 x8 xlt hc2 hl2;generalize ext w2 nq=w8 at *;obtain⟨x0,x1,x2,x3,x4,x5,x6,x7,x8,xlt⟩:=HX3.out
  go_wp2_with fail
  refine(zfO 3 (HAl3.out _)).mono ?_
  rintro e w3 ⟨⟨a5,c5,rfl,hI5,hc5⟩,hb5⟩;obtain⟨HI5,HC5,HB5⟩:=hd3 hI5 hc5 hb5;clear hI5 hc5 hb5;go_wp2
  go_ret2
  rw[HF.out];exact zaU.up (w1:=w8.alloc (.cells #[.int .i64 s0,.int .i64 zR,.int .i64 zC] 3)) ⟨⟨a5,c5,rfl,HI5.out,HC5.out⟩,HB5.out⟩ (HB3.out.alloc HB3.out.size _)
 ·have t1:(zE != 0)=true:=Vm;have t2:(zE==0)=false:=KA;have t3:decide (¬ zE=0)=true:=KR;have HF:Hid (RR=([],7)):=zg9 (r:=([s0,zR,zC],decide (zE=0))) KR HRe.out
  go_wp2_with fail
  refine HWin.out.mono ?_
  rintro e w2 ⟨⟨aw,cw,rfl⟩,hb2⟩;have HB2:=htr HB1 hb2;have HX2:=hid (HX1.out.below hb2);clear hb2 x0 x1 x2 x3 x4 x5 x6 x7 x8 xlt hE HRe;go_wp2
  refine zx Yb Yb ?_
  repeat (go_big_quiet_step (fail))
  refine wpQuiet_nil ?_
  intro _ hw';obtain⟨nq,hw''⟩:=hw';subst hw'';have HB3:=hid (HB2.out.trans ((zF w2 nq).mono HB2.out.size));generalize ext w2 nq=w8 at *;go_wp2
  go_ret2
  exact zaI HF.out HB3.out
):P:=h
theorem Uv{P:Prop}(h:P:=by
 obtain⟨bb,off,s,aj,cj,rfl,hcell,hs,_,hIs,hbb,_⟩:=(HS.out.below HB1.out).pickc hlt;obtain⟨HTk,HMem,HCu,HVs,HIs⟩:=hd5 (zh5 hs) (Zq hs) (zl0 (input:=input) hs) (zbu cj hIs) hIs;have ql:=hIs.len;clear hs hIs
 cases hv:zk s with
 | false=>
  rw[hv]at HVs;have HF:Hid (RR=([],1)):=O7;clear hv
  go_wp2_with fail
  refine HVs.out.mono ?_
  rintro e w' ⟨rfl,rfl⟩;go_wp2
  go_ret2
  exact zaI HF.out HB1.out
 | true=>
  rw[hv]at HVs;have HA2:Hid ((S.take (j+1)).all zk=true):=XZ;clear hv
  go_wp2_with fail
  refine HVs.out.mono ?_
  rintro e w' ⟨rfl,rfl⟩;go_wp2;go_roundw
  case rel=>exact⟨j+1,aj,cj,hlt,Yg,by rw[HCu.out],Ka,HA2.out,XO⟩
  case measure=>simp[intOf];omega
):P:=h
theorem UG{P:Prop}(h:P:=by have HF:Hid (RR=zoS (zh input S)):=zen (r:=(zh input S,zb9 (if 0<=l.frm then S.getD l.frm.toNat []else input) (zh input S))) JO HRe.out;rw[hs]at HIt;clear hs hcs0;go_wp2_with fail;refine HIt.out.mono ?_;rintro e w9 ⟨rfl,hb9⟩;have HB9:=htr HB1 hb9;have HA9:=hid (HA.out.below hb9);clear hb9 x0 x1 x2 x3 x4 x5 x6 x7 x8;go_wp2_with fail;refine(zfO c HA9.out).mono ?_;rintro e w3 ⟨⟨a5,c5,rfl,hI5,hc5⟩,hb5⟩;obtain⟨HI5,HC5,HB5⟩:=hd3 hI5 hc5 hb5;clear hI5 hc5 hb5;go_wp2;go_ret2;rw[HF.out];exact zaU.up (w1:=w9) ⟨⟨a5,c5,rfl,HI5.out,HC5.out⟩,HB5.out⟩ HB9.out):P:=h
theorem UH{P:Prop}(h:P:=by
 cases hv:zk (zh m.input (T.take j))with
 | true=>rfl
 | false=>
  exfalso
  have hb:=(zaW m.input (T.take j) l)
  unfold zh at hv
  rcases hb with⟨k,_,_⟩|⟨k,_⟩
  ·omega
  ·simp only[Zu]at k
   cases hg:(T.take j).getLast? with
   | none=>rw[hg]at hv;simp only[Option.getD_none]at hv;rw[k.1.1]at hv;cases hv
   | some z=>
    rw[hg]at hv;simp only[Option.getD_some]at hv;have:=Zau.1 k.2 z (ZaY hg);rw[this]at hv;cases hv
):P:=h
theorem UZ{P:Prop}(h:P:=by have HF:Hid (RR=([],1)):=Xv;rw[hvi]at HVi2;clear hvi;go_wp2_with fail;refine HVi2.out.mono ?_;rintro e w' ⟨rfl,rfl⟩;go_wp2;go_ret2;exact zaI HF.out HB0.out):P:=h
theorem Tc{P:Prop}(h:P:=by have HF:Hid (RR=([],7)):=zg9 (r:=(zh input S,zb9 (if 0<=l.frm then S.getD l.frm.toNat []else input) (zh input S))) JK HRe.out;rw[hs]at HIt;clear hs hcs0;go_wp2_with fail;refine HIt.out.mono ?_;rintro e w' ⟨rfl,hb9⟩;have HB9:=htr HB1 hb9;clear hb9 x0 x1 x2 x3 x4 x5 x6 x7 x8;go_wp2;go_ret2;exact zaI HF.out HB9.out):P:=h
theorem Tx{P:Prop}(h:P:=by go_wp2;go_ret2;exact zaI HF.out HB1.out):P:=h
theorem T4{P:Prop}(h:P:=by
 unfold zh
 cases hg:S.getLast? with
 | none=>exact HVI.out
 | some s=>exact Zau.1 HAl.out s (ZaY hg)
):P:=h
theorem TD{P:Prop}(h:P:=by have Q2:=hid q2;clear hff q2;go_wp2;go_meet;rw[Q2.out];exact⟨rfl,rfl⟩):P:=h
theorem Ee{P:Prop}(h:P:=by have h:=HRd.out;rw[HVI.out,HOK.out,HAl.out,Z4,Z4,Zm rfl]at h;exact h):P:=h
theorem Es{P:Prop}(h:P:=by
 rcases ho.2 with k|⟨b,cap,cur,rfl,k1,k2,k3⟩
 ·exact .inl k
 ·exact .inr ⟨b,cap,cur,rfl,k1,(Zbv _ _ _ _ (show b≠g from hbk b rfl)).trans k2,k3⟩
):P:=h
theorem EH{P:Prop}(h:P:=by simp only[Zu,ZC]at hl;omega):P:=h
theorem EW{P:Prop}(h:P:=by
 ·have h:=HRm.out;rw[show 12-j=(12-(j+1))+1 from Ya]at h;exact h.next K2.out
):P:=h
theorem Iu{P:Prop}(h:P:=by go_wp2;refine Zp (zc4 rfl _ _ _) rfl ?_;exact zlR HF.out HB1.out):P:=h
theorem zpk{w:World}{v:Value}{l:zac}(hv:zcV w v l)(hr:zQ l)(hle:zbF l)(i:Int)(hi:0<=i)(hi2:i<=1000000):
  Calls Tryz.prog 94 #[v,.int .i64 i] w fun e w'=>e=.returned (.bool (zai l i))/\Below w.heap.size w w':=by
 have hkind:l.kind=1∨l.kind=2∨l.kind=3∨l.kind=4∨l.kind=5∨l.kind=6∨l.kind=7∨¬ (1<=l.kind/\l.kind<=7):=Ya
 rcases hkind with hk|hk|hk|hk|hk|hk|hk|hk
 ·exact zoc hv hr hle i hi hi2 hk
 ·exact zmI hv hr hle i hi hi2 hk
 ·exact znP hv hr hle i hi hi2 hk
 ·exact zoj hv hr hle i hi hi2 hk
 ·exact zoy hv hr hle i hi hi2 hk
 ·exact znK hv hr hle i hi hi2 hk
 ·exact znH hv hr hle i hi hi2 hk
 ·exact znX hv hr hle i hi hi2 hk
theorem zlp{w:World}{m:zec}{a1 a2:Option Addr}(c1 c2:Nat)(h1:zah w Any a1 m.input)(h2:zaK w a2 m.layers)(hr:∀l∈m.layers,zQ l)(hs:∀l∈m.layers,zbF l):
  Calls Tryz.prog 61 #[.agg #[.slice a1 m.input.length c1,.slice a2 m.layers.length c2]] w fun e w'=>e=.returned (.bool (zbe m))/\Below w.heap.size w w':=by
 have q1:=h1.len;have q2:=h2.len;obtain⟨H2,HRg,HSh⟩:=hd3 h2 hr hs;have hbA:=blA w (.cells #[.slice a1 m.input.length c1,.slice a2 m.layers.length c2] 25);have HV:=hid (zbu c1 (h1.below hbA));generalize hR:zbe m=R;have HR:=hid hR;unfold zbe at hR;clear h1 h2 hr hs
 cases e1:zk m.input with
 | false=>
  rw[e1]at HV hR;have HF:Hid (R=false):=hR.symm;clear hR e1
  go_enter Tryz.func61,Tryz.ntmps61
  go_wp2_with fail
  refine HV.out.mono ?_
  rintro e w' ⟨rfl,rfl⟩;go_wp2;go_ret;exact II
 | true=>
  rw[e1]at HV hR;clear e1
  by_cases e2:m.layers.length<=64
  ·rw[Zk e2]at hR;have HL:Hid (zam (m.layers.drop 0) ((0:Nat):Int)=R):=hR;clear hR
   go_enter Tryz.func61,Tryz.ntmps61
   go_wp2_with fail
   refine HV.out.mono ?_
   rintro e w' ⟨rfl,rfl⟩;have hx:=za1.alloc w (.slice a1 m.input.length c1) (.slice a2 m.layers.length c2) 25;have HB:=hid hbA;generalize w.alloc (.cells #[.slice a1 m.input.length c1,.slice a2 m.layers.length c2] 25)=W at *;have HX:=hid hx;obtain⟨x0,x1,xf,xlt⟩:=hx;clear hbA;go_wp2;clear x0 x1 xf xlt
   go_loopw [3] (fun i wr=>∃j:Nat,j<=m.layers.length/\i=.int .i64 (j:Int)/\Hid (zam (m.layers.drop j) (j:Int)=R)/\Hid (Below W.heap.size W wr)) (fun i _=>m.layers.length-(intOf i).toNat)
   case atStart=>exact⟨0,Zs _,rfl,HL.out,Ze _ _⟩
   case round=>
    obtain⟨j,hj,rfl,HS,HW⟩:=hrel;obtain⟨x0,x1,xf,xlt⟩:=HX.out.below HW.out
    by_cases hlt:j<m.layers.length
    ·obtain⟨bl,ol,l,rfl,hbl,hl,b1,b2,d1,d2,⟨l0,l1,l2,l3,l4,l5,l6,l7,l8⟩,r1,r2⟩:=(H2.out.below (HB.out.trans (HW.out.mono HB.out.size))).pick hlt;have hmem:=Zq hl;have hdrop:m.layers.drop j=l::m.layers.drop (j+1):=UV;have HStep:Hid ((zai l (j:Int) && zam (m.layers.drop (j+1)) ((j+1:Nat):Int))=R):=by
      have:=HS.out;rw[hdrop]at this;exact this
     have HC:=hid (zpk (w:=wr) (v:=.agg #[.int .i64 l.kind,.int .i64 l.frm,.int .i64 l.out,.int .i64 l.kh,.int .i64 l.kw,.int .i64 l.stride,.int .i64 l.pad,.slice b1 l.weights.length d1,.slice b2 l.bias.length d2]) ⟨b1,b2,d1,d2,rfl,r1,r2⟩ (HRg.out l hmem) (HSh.out l hmem) (j:Int) Ya Ya);have p1:=r1.len;have p2:=r2.len;clear hdrop hl hmem r1 r2 HS
     go_wp2_with fail
     refine HC.out.mono ?_
     rintro e w2 ⟨rfl,hb2⟩;have HW2:=htr HW hb2;clear hb2 x0 x1 xf xlt l0 l1 l2 l3 l4 l5 l6 l7 l8 HC
     cases hc:zai l (j:Int)with
     | false=>
      have HF:Hid (R=false):=by unfold Hid;rw[<- HStep.out,hc];rfl
      clear hc;go_wp2;go_ret;exact⟨zi HF.out.symm,HB.out.trans (HW2.out.mono HB.out.size)⟩
     | true=>
      have HS2:Hid (zam (m.layers.drop (j+1)) ((j+1:Nat):Int)=R):=by have:=HStep.out;rw[hc]at this;exact this
      clear hc;go_wp2;go_roundw
      case rel=>exact⟨j+1,hlt,Yg,HS2.out,HW2.out⟩
      case measure=>simp[intOf];omega
    ·obtain rfl:j=m.layers.length:=Ya;have HE:Hid (R=true):=XW;go_wp2;go_ret;exact⟨zi HE.out.symm,HB.out.trans (HW.out.mono HB.out.size)⟩
  ·rw[Zj e2]at hR;have HF:Hid (R=false):=by unfold Hid;rw[<- hR];rfl
   clear hR
   go_enter Tryz.func61,Tryz.ntmps61
   go_wp2_with fail
   refine HV.out.mono ?_
   rintro e w' ⟨rfl,rfl⟩;go_wp2;go_ret;exact II
theorem zgt{w:World}{u:Value}{l:zac}(hu:zcV w u l)(hr:zQ l)(hle:zbF l)(n:Nat)(hn:n<=1000):
  Calls Tryz.prog 95 #[u,.int .i64 (n:Int)] w fun e w'=>e=.returned (.bool (decide (n+1<=64) && zai l n))/\Below w.heap.size w w':=by
 obtain⟨b1,b2,d1,d2,rfl,r1,r2⟩:=hu.ex;have q3:=r1.len;have q4:=r2.len;obtain⟨R1,R2,HRg,HLe⟩:=hd4 r1 r2 hr hle;generalize hR:(decide (n+1<=64) && zai l n)=RR;have HR:=hid hR;clear hu r1 r2 hr hle hR
 go_enter Tryz.func95,Tryz.ntmps95
 go_upto_region 1 with fail
 have hb0:=blA w (zbG l b1 d1 b2 d2 44);have hx:=b9l w l b1 d1 b2 d2 44;generalize w.alloc (zbG l b1 d1 b2 d2 44)=W0 at *;obtain⟨HB0,HX0⟩:=hd2 hb0 hx;clear hb0 hx
 go_upto_region 2 with fail
 have hbW:=blA W0 (.cells #[.int .i64 1] 3);have h1:zah (W0.alloc (.cells #[.int .i64 1] 3)) Any (some ⟨W0.heap.size,0,none⟩) [1]:=ze6 ⟨Ya,Ya⟩ (by rw[World.cell?_alloc_at _ _ _ _ rfl];rfl) Yc;have hmk:MkL (W0.alloc (.cells #[.int .i64 1] 3)) ((W0.alloc (.cells #[.int .i64 1] 3)).alloc (.cells #[.slice (some ⟨W0.heap.size,0,none⟩) 1 1,.slice none 0 0] 25)) (W0.heap.size+1) 25 (.slice (some ⟨W0.heap.size,0,none⟩) 1 1) (.slice none 0 0) (zbW 0):=by
  have e:W0.heap.size+1=(W0.alloc (.cells #[.int .i64 1] 3)).heap.size:=Yc;rw[e]
  refine⟨?_,Zaw _ _ _ _,VM,Za _,(Ze _ _).alloc (Za _) _⟩
  show(Array.push _ _)[_]? =_
  exact Iz
 have HW0:Hid ((W0.alloc (.cells #[.int .i64 1] 3)).heap.size=W0.heap.size+1):=VS;have HMk:=hid hmk;have HB1:=htr HB0 hbW;obtain⟨HX,H1⟩:=hd2 (HX0.out.below hbW) h1;generalize(W0.alloc (.cells #[.int .i64 1] 3)).alloc (.cells #[.slice (some ⟨W0.heap.size,0,none⟩) 1 1,.slice none 0 0] 25)=W1 at *;generalize W0.alloc (.cells #[.int .i64 1] 3)=W at *;clear hbW h1 hmk;go_wp2
 go_loopw [6] (fun i wr=>∃(j:Nat) (v:Value),j<=n/\i=.int .i64 (j:Int)/\Hid (MkL W wr (W0.heap.size+1) 25 (.slice (some ⟨W0.heap.size,0,none⟩) 1 1) v (zbW j))) (fun i _=>n-(intOf i).toNat)
 case atStart=>exact⟨0,_,Zs _,rfl,HMk.out⟩
 case round=>
  obtain⟨j,v,hj,rfl,HM⟩:=hrel
  by_cases hlt:j<n
  ·have k1:=HM.out.c1;have hj2:j<1000:=Ya
   go_wp2_with (at_builtin;refine zaa rfl (.tmp 15) (.tmp 17) 23 23 rfl W.heap.size 44 (.agg #[.int .i64 0,.int .i64 0,.int .i64 0,.int .i64 0,.int .i64 0,.int .i64 0,.int .i64 0,.slice none 0 0,.slice none 0 0]) 9 104 Tryz.underlying23 Tryz.underlying23 Tryz.infoLay rfl Ya v j (zbW j).flatten rfl Ys (some ⟨wr.heap.size,0,none⟩) 1 1 (zer zbV none none 0 0) rfl (zc2 wr (zer zbV none none 0 0) _ rfl (zgn _ _ _ _ _)) Ya Yf X5 ?_;intro v' w' hown hg hn2;obtain⟨av,cv,rfl⟩:=zdd hown;have k3:=(HM.out.mid (v':=.slice av (j+1) cv) (c:=zer zbV none none 0 0) hg).2.1;have k4:=(HM.out.mid (v':=.slice av (j+1) cv) (c:=zer zbV none none 0 0) hg).2.2;have HOwn:=hid hown;have HG:=hid hg;have HN2:=hid hn2;clear hown hg hn2)
   have hst:=HM.out.step (c:=zer zbV none none 0 0) X9 HG.out HN2.out;rw[zhb]at hst;have HSt:=hid hst;clear hst k1 k3 k4;go_roundw
   case rel=>exact⟨j+1,_,hlt,Yg,HSt.out⟩
   case measure=>simp[intOf];omega
  ·obtain rfl:j=n:=Ya;obtain⟨a0,c0,rfl⟩:=zdd HM.out.own;rw[zbg]at HM;have HXw:=hid (HX.out.below HM.out.be);obtain⟨x0,x1,x2,x3,x4,x5,x6,x7,x8,xlt⟩:=HXw.out;have k1:=HM.out.c1;clear hlt HMk
   go_wp2_with (at_builtin;refine zaa rfl (.tmp 21) (.tmp 23) 23 23 rfl W.heap.size 44 (.agg #[.int .i64 0,.int .i64 0,.int .i64 0,.int .i64 0,.int .i64 0,.int .i64 0,.int .i64 0,.slice none 0 0,.slice none 0 0]) 9 104 Tryz.underlying23 Tryz.underlying23 Tryz.infoLay rfl Ya (.slice a0 j c0) j (zbW j).flatten rfl Xd (some ⟨wr.heap.size,0,none⟩) 1 1 (zer l b1 b2 d1 d2) rfl (zc2 wr (zer l b1 b2 d1 d2) _ rfl (zgn _ _ _ _ _)) Ya Yf X5 ?_;intro v' w' hown hg hn2;obtain⟨av,cv,rfl⟩:=zdd hown;have k3:=(HM.out.mid (v':=.slice av (j+1) cv) (c:=zer l b1 b2 d1 d2) hg).2.1;have k4:=(HM.out.mid (v':=.slice av (j+1) cv) (c:=zer l b1 b2 d1 d2) hg).2.2;have k5:w'.cell? ⟨W0.heap.size+1,0,none⟩=some (.slice (some ⟨W0.heap.size,0,none⟩) 1 1):=(by have hbx:=(HM.out.mid (v':=.slice av (j+1) cv) (c:=zer l b1 b2 d1 d2) hg).1;simp[World.cell?,hbx]);have HOwn:=hid hown;have HG:=hid hg;have HN2:=hid hn2;clear hown hg hn2)
   have hst:=HM.out.step (c:=zer l b1 b2 d1 d2) X9 HG.out HN2.out;have hbe:=HB1.out.trans (hst.be.mono HB1.out.size);obtain⟨hrow,h9⟩:=zhQ (n:=j) (l:=l) (d1:=d1) (d2:=d2) (R1.out.below hbe) (R2.out.below hbe);have hown2:=hst.own;rw[show(zbW j++[zer l b1 b2 d1 d2]).length=j+1 from Xe]at hown2;have hLL:(List.replicate j zbV++[l]).length=j+1:=Yc;obtain⟨a9,c9,hv9,hlays⟩:=zll (L:=List.replicate j zbV++[l]) hown2 hLL.symm Ya Xe hrow h9;have hav:av=a9:=by injection hv9
   rw[<- hav]at hlays;have HLays:=hid hlays;have HVm:=hid (zlp (m:=⟨[1],List.replicate j zbV++[l]⟩) 1 cv (H1.out.below hst.be) HLays.out (by
     intro x hx
     rcases Zar.1 hx with h|h
     ·rw[Zbq h];unfold zQ zbV I64;simp
     ·simp at h;subst h;exact HRg.out) (by
     exact Ez))
   rw[zfS,show zk [1]=true from Yd,Z4,HR.out]at HVm;simp only[hLL]at HVm;have HBe:=hid hbe;clear hst hbe hrow h9 hown2 hLL hv9 hlays hav k1 k3 k4 k5 x0 x1 x2 x3 x4 x5 x6 x7 x8 xlt HOwn HG HN2;generalize w'.setCell ⟨W0.heap.size+1,1,none⟩ (.slice av (j+1) cv)=w2 at *
   refine HVm.out.mono ?_
   rintro e w3 ⟨rfl,hb3⟩;have HB3:=htr HBe hb3;clear hb3 HVm;go_wp2;go_ret;exact⟨rfl,HB3.out⟩
theorem zen{r:List Int×Bool}(h:r.2=true){R:List Int×Int}(hR:(if r.2 && zk r.1 then(r.1,0)else([],7))=R):R=zoS r.1:=by
 rw[<- hR,h,Z4];rfl
theorem zg9{r:List Int×Bool}(h:r.2=false){R:List Int×Int}(hR:(if r.2 && zk r.1 then(r.1,0)else([],7))=R):R=([],7):=by
 rw[<- hR,h,Bool.false_and];rfl
theorem zl0{input s:List Int}{S:List (List Int)}{j:Nat}(h:S[j]? =some s):zh input (S.take (j+1))=s:=by
 have hlt:=(Zr.1 h).1;exact zhU (k:=j) Yy (by rw[List.getElem?_take,Zm Ya];exact h)
theorem zaU.up{w w1 w':World}{p:List Int×Int}{e:Ending}(h:zaU w1 p e w')(hb:Below w.heap.size w w1):zaU w p e w':=
 let ⟨⟨a,c,h1,h2,h3⟩,h4⟩:=h;⟨⟨a,c,h1,h2.mono (fun _ _ hx=>Zi hb.size hx),h3⟩,hb.trans (h4.mono hb.size)⟩
theorem zgy(w:World)(x:Int)(T:Nat)(hx:I64 x):zah (w.alloc (.cells #[.int .i64 x] T)) Any (some ⟨w.heap.size,0,none⟩) [x]:=ze6 hx (by rw[World.cell?_alloc_at _ _ _ _ rfl];rfl) Yc
theorem zqY{w:World}{u:Value}{input:List Int}{S:List (List Int)}{l:zac}{ai ash:Option Addr}(ci cs:Nat)(hi:zah w Any ai input)(hS:zbd w Any ash S)(hu:zcV w u l)(hr:zQ l)(hle:zbF l)(hn:S.length<=1000)(hk:l.kind=1∨l.kind=5∨l.kind=6):
  Calls Tryz.prog 62 #[.slice ai input.length ci,.slice ash S.length cs,u] w (zaU w (zL input S l)):=by
 obtain⟨b1,b2,d1,d2,rfl,r1,r2⟩:=hu.ex;have q1:=hi.len;have q2:=hS.len;have q3:=r1.len;have q4:=r2.len;obtain⟨HI,HS,HU,HRg,HLe,HN⟩:=hd6 hi hS hu hr hle hn;obtain⟨HKD,HVi⟩:=hd2 hk (fun W (hb:Below w.heap.size w W)=>zbu ci (hi.below hb));generalize hR:zL input S l=RR;have HR:=hid hR;unfold zL at hR;have HRd:=hid hR;clear hi hS hu r1 r2 hr hle hR hk
 go_enter Tryz.func62,Tryz.ntmps62
 go_upto_region 1 with fail
 have hb0:=blA w (zbG l b1 d1 b2 d2 44);have hx:=b9l w l b1 d1 b2 d2 44;generalize w.alloc (zbG l b1 d1 b2 d2 44)=W at *;obtain⟨HB0,HX,HVi2⟩:=hd3 hb0 hx (HVi.out W hb0);clear hb0 hx HVi;obtain⟨x0,x1,x2,x3,x4,x5,x6,x7,x8,xlt⟩:=HX.out
 cases hvi:zk input with
 | false=>
  exact UZ
 | true=>
  rw[hvi]at HVi2;have HVI:=hid hvi;clear hvi
  go_wp2_with fail
  refine HVi2.out.mono ?_
  rintro e w' ⟨rfl,rfl⟩
  go_wp2_with fail
  refine(zgt (HU.out.below HB0.out) HRg.out HLe.out S.length HN.out).mono ?_
  rintro e w1 ⟨rfl,hb1⟩;have HB1:=htr HB0 hb1;have HX1:=hid (HX.out.below hb1);clear hb1 x0 x1 x2 x3 x4 x5 x6 x7 x8 xlt HVi2
  cases hok:(decide (S.length+1<=64) && zai l S.length)with
  | false=>
   exact O6
  | true=>
   have HOK:=hid hok;clear hok;go_wp2
   go_loopw [8,9] (fun u i wr=>∃(j:Nat) (a:Option Addr) (c:Nat),j<=S.length/\i=.int .i64 (j:Int)/\u=.slice a (zh input (S.take j)).length c/\Hid (zah w1 Any a (zh input (S.take j)))/\Hid ((S.take j).all zk=true)/\Hid (w1=wr)) (fun _ i _=>S.length-(intOf i).toNat)
   case atStart=>exact⟨0,ai,ci,Zs _,rfl,rfl,HI.out.below HB1.out,rfl,rfl⟩
   case round=>
    obtain⟨j,a,c,hj,rfl,rfl,HA,HV,HW⟩:=hrel;have ew:=HW.out;clear HW;subst ew
    by_cases hlt:j<S.length
    ·exact Uv
    ·obtain rfl:j=S.length:=Ya;have HAl:Hid (S.all zk=true):=XB;rw[Zae]at HA⊢;have hcur:zk (zh input S)=true:=T4;have HRe:Hid ((if(za9 input S l).2 && zk (za9 input S l).1 then((za9 input S l).1,0)else([],7))=RR):=Ee;have hok2:zai l S.length=true:=YY;obtain⟨HOk2,HCur⟩:=hd2 hok2 hcur;have hcs:=zae hcur;obtain⟨z1,z2⟩:=hcs;have qc:=HA.out.len;have HSz:=hid (zmj c HA.out);obtain⟨x0,x1,x2,x3,x4,x5,x6,x7,x8,xlt⟩:=HX1.out;generalize hz:zt (zh input S)=sz at *;have HZ:=hid hz;clear hcur hok2 hz
     go_wp2_with fail
     refine HSz.out.mono ?_
     rintro e w' ⟨rfl,rfl⟩;have hk:=HKD.out
     rcases hk with hk|hk|hk
     ·have hraw:za9 input S l=([l.out],decide ((l.weights.length:Int)=l.out*sz)):=by unfold za9;rw[Zm hk,HZ.out]
      obtain⟨o1,o2⟩:=zqr HOk2.out hk;rw[hraw]at HRe;obtain⟨m1,m2⟩:=zfk o1 o2 z1 z2
      by_cases he:(l.weights.length:Int)=l.out*sz
      ·have HF:Hid (RR=zoS [l.out]):=zen (r:=([l.out],decide ((l.weights.length:Int)=l.out*sz))) (Zk he) HRe.out;have t1:((l.weights.length:Int) != l.out*sz)=false:=Uc;have t2:decide (¬ (l.weights.length:Int)=l.out*sz)=false:=Kp;have HAl1:Hid (∀W:World,zah (W.alloc (.cells #[.int .i64 l.out] 3)) Any (some ⟨W.heap.size,0,none⟩) [l.out]):=fun W=>zgy W l.out _ ⟨Ya,Ya⟩
       clear hraw he HRe;have k1:(l.kind==1)=true:=Yq;clear hk
       go_wp2_with fail
       refine(zfO 1 (HAl1.out _)).mono ?_
       rintro e w3 ⟨⟨a5,c5,rfl,hI5,hc5⟩,hb5⟩;obtain⟨HI5,HC5,HB5⟩:=hd3 hI5 hc5 hb5;clear hI5 hc5 hb5;go_wp2
       go_ret2
       rw[HF.out];exact zaU.up (w1:=w1.alloc (.cells #[.int .i64 l.out] 3)) ⟨⟨a5,c5,rfl,HI5.out,HC5.out⟩,HB5.out⟩ (HB1.out.alloc HB1.out.size _)
      ·have HF:Hid (RR=([],7)):=zg9 (r:=([l.out],decide ((l.weights.length:Int)=l.out*sz))) (Zj he) HRe.out;have t1:((l.weights.length:Int) != l.out*sz)=true:=Y2;have t2:decide (¬ (l.weights.length:Int)=l.out*sz)=true:=Kp;clear hraw he HRe;have k1:(l.kind==1)=true:=Yq;clear hk;exact Tx
     ·have hraw:za9 input S l=(zh input S,true):=YC;have HF:Hid (RR=zoS (zh input S)):=zen (r:=(zh input S,true)) rfl JN;clear hraw HRe;have k1:(l.kind==1)=false:=bn0 Ya;have k2:(l.kind==2)=false:=bn0 Ya;have k3:(l.kind==3)=false:=bn0 Ya;have k4:(l.kind==4)=false:=bn0 Ya;have k6:(l.kind==6)=false:=bn0 Ya;have k7:(l.kind==7)=false:=bn0 Ya;clear hk
      go_wp2_with fail
      refine(zfO c HA.out).mono ?_
      rintro e w3 ⟨⟨a5,c5,rfl,hI5,hc5⟩,hb5⟩;obtain⟨HI5,HC5,HB5⟩:=hd3 hI5 hc5 hb5;clear hI5 hc5 hb5;go_wp2
      go_ret2
      rw[HF.out];exact zaU.up (w1:=w1) ⟨⟨a5,c5,rfl,HI5.out,HC5.out⟩,HB5.out⟩ HB1.out
     ·have hraw:za9 input S l=([sz],true):=by unfold za9;rw[Zg Ya,Zg Ya,Zg Ya,Zm hk,HZ.out]
      have HF:Hid (RR=zoS [sz]):=zen (r:=([sz],true)) rfl JN;have HAl1:Hid (∀W:World,zah (W.alloc (.cells #[.int .i64 sz] 3)) Any (some ⟨W.heap.size,0,none⟩) [sz]):=fun W=>zgy W sz _ ⟨Ya,Ya⟩
      clear hraw HRe;have k1:(l.kind==1)=false:=bn0 Ya;have k2:(l.kind==2)=false:=bn0 Ya;have k3:(l.kind==3)=false:=bn0 Ya;have k4:(l.kind==4)=false:=bn0 Ya;have k6:(l.kind==6)=true:=Yq;clear hk
      go_wp2_with fail
      refine(zfO 1 (HAl1.out _)).mono ?_
      rintro e w3 ⟨⟨a5,c5,rfl,hI5,hc5⟩,hb5⟩;obtain⟨HI5,HC5,HB5⟩:=hd3 hI5 hc5 hb5;clear hI5 hc5 hb5;go_wp2
      go_ret2
      rw[HF.out];exact zaU.up (w1:=w1.alloc (.cells #[.int .i64 sz] 3)) ⟨⟨a5,c5,rfl,HI5.out,HC5.out⟩,HB5.out⟩ (HB1.out.alloc HB1.out.size _)
theorem zqX{w:World}{u:Value}{input:List Int}{S:List (List Int)}{l:zac}{ai ash:Option Addr}(ci cs:Nat)(hi:zah w Any ai input)(hS:zbd w Any ash S)(hu:zcV w u l)(hr:zQ l)(hle:zbF l)(hn:S.length<=1000)(hk:l.kind=7):
  Calls Tryz.prog 62 #[.slice ai input.length ci,.slice ash S.length cs,u] w (zaU w (zL input S l)):=by
 obtain⟨b1,b2,d1,d2,rfl,r1,r2⟩:=hu.ex;have q1:=hi.len;have q2:=hS.len;have q3:=r1.len;have q4:=r2.len;obtain⟨HI,HS,HU,HRg,HLe,HN⟩:=hd6 hi hS hu hr hle hn;obtain⟨HKD,HVi⟩:=hd2 hk (fun W (hb:Below w.heap.size w W)=>zbu ci (hi.below hb));generalize hR:zL input S l=RR;have HR:=hid hR;unfold zL at hR;have HRd:=hid hR;clear hi hS hu r1 r2 hr hle hR hk
 go_enter Tryz.func62,Tryz.ntmps62
 go_upto_region 1 with fail
 have hb0:=blA w (zbG l b1 d1 b2 d2 44);have hx:=b9l w l b1 d1 b2 d2 44;generalize w.alloc (zbG l b1 d1 b2 d2 44)=W at *;obtain⟨HB0,HX,HVi2⟩:=hd3 hb0 hx (HVi.out W hb0);clear hb0 hx HVi;obtain⟨x0,x1,x2,x3,x4,x5,x6,x7,x8,xlt⟩:=HX.out
 cases hvi:zk input with
 | false=>
  exact UZ
 | true=>
  rw[hvi]at HVi2;have HVI:=hid hvi;clear hvi
  go_wp2_with fail
  refine HVi2.out.mono ?_
  rintro e w' ⟨rfl,rfl⟩
  go_wp2_with fail
  refine(zgt (HU.out.below HB0.out) HRg.out HLe.out S.length HN.out).mono ?_
  rintro e w1 ⟨rfl,hb1⟩;have HB1:=htr HB0 hb1;have HX1:=hid (HX.out.below hb1);clear hb1 x0 x1 x2 x3 x4 x5 x6 x7 x8 xlt HVi2
  cases hok:(decide (S.length+1<=64) && zai l S.length)with
  | false=>
   exact O6
  | true=>
   have HOK:=hid hok;clear hok;go_wp2
   go_loopw [8,9] (fun u i wr=>∃(j:Nat) (a:Option Addr) (c:Nat),j<=S.length/\i=.int .i64 (j:Int)/\u=.slice a (zh input (S.take j)).length c/\Hid (zah w1 Any a (zh input (S.take j)))/\Hid ((S.take j).all zk=true)/\Hid (w1=wr)) (fun _ i _=>S.length-(intOf i).toNat)
   case atStart=>exact⟨0,ai,ci,Zs _,rfl,rfl,HI.out.below HB1.out,rfl,rfl⟩
   case round=>
    obtain⟨j,a,c,hj,rfl,rfl,HA,HV,HW⟩:=hrel;have ew:=HW.out;clear HW;subst ew
    by_cases hlt:j<S.length
    ·exact Uv
    ·obtain rfl:j=S.length:=Ya;have HAl:Hid (S.all zk=true):=XB;rw[Zae]at HA⊢;have hcur:zk (zh input S)=true:=T4;have HRe:Hid ((if(za9 input S l).2 && zk (za9 input S l).1 then((za9 input S l).1,0)else([],7))=RR):=Ee;have hok2:zai l S.length=true:=YY;obtain⟨HOk2,HCur⟩:=hd2 hok2 hcur;have hcs:=zae hcur;obtain⟨z1,z2⟩:=hcs;have qc:=HA.out.len;have HSz:=hid (zmj c HA.out);obtain⟨x0,x1,x2,x3,x4,x5,x6,x7,x8,xlt⟩:=HX1.out;generalize hz:zt (zh input S)=sz at *;have HZ:=hid hz;clear hcur hok2 hz
     go_wp2_with fail
     refine HSz.out.mono ?_
     rintro e w' ⟨rfl,rfl⟩;have hk:=HKD.out;have hraw:za9 input S l=(zh input S,zb9 (if 0<=l.frm then S.getD l.frm.toNat []else input) (zh input S)):=YJ;have o1:=zlq HOk2.out hk;rw[hraw]at HRe;clear hraw;have k1:(l.kind==1)=false:=bn0 Ya;have k2:(l.kind==2)=false:=bn0 Ya;have k3:(l.kind==3)=false:=bn0 Ya;have k4:(l.kind==4)=false:=bn0 Ya;have k6:(l.kind==6)=false:=bn0 Ya;have k7:(l.kind==7)=true:=Yq;clear hk;have HIn9:Hid (∀{x:List Int} {ax:Option Addr} (cx:Nat),zah w1 Any ax x->Calls Tryz.prog 97 #[.slice ax x.length cx,.slice a (zh input S).length c] w1 fun e w'=>e=.returned (.bool (zb9 x (zh input S)))/\Below w1.heap.size w1 w'):=fun cx hx=>(ztE cx c hx HA.out).mono fun e1 w' ⟨h1,n,h2⟩=>⟨h1,h2 ▸ Below.drewN_refl _ _⟩
     by_cases hf:0<=l.frm
     ·obtain⟨k,hkk⟩:∃k:Nat,l.frm=(k:Int):=⟨l.frm.toNat,Ya⟩
      have hkl:k<S.length:=Ya;obtain⟨bb,off,o,aj,cj,rfl,hcell,hl,hcj,hIo,hbb,_⟩:=(HS.out.below HB1.out).pickc hkl;have hcs0:(if 0<=l.frm then S.getD l.frm.toNat []else input)=o:=by rw[Zm hf,hkk,ZaH,Zd,hl];rfl
      have HIo:=hid hIo;have qo:=hIo.len;have hf2:(0:Int)<=(k:Int):=Ya;rw[hkk]at x1;have HKK:=hid hkk;clear hl hIo hkk hf o1;have HIt:=hid (HIn9.out cj HIo.out)
      cases hs:zb9 o (zh input S)with
      | false=>
       exact Tc
      | true=>
       exact UG
     ·have hcs0:(if 0<=l.frm then S.getD l.frm.toNat []else input)=input:=Zg hf;have HIi:=hid (HI.out.below HB1.out);clear o1;have HIt:=hid (HIn9.out ci HIi.out)
      cases hs:zb9 input (zh input S)with
      | false=>
       exact Tc
      | true=>
       exact UG
theorem zrx{w:World}{u:Value}{input:List Int}{S:List (List Int)}{l:zac}{ai ash:Option Addr}(ci cs:Nat)(hi:zah w Any ai input)(hS:zbd w Any ash S)(hu:zcV w u l)(hr:zQ l)(hle:zbF l)(hn:S.length<=1000)(hk:l.kind=2∨l.kind=3∨l.kind=4):
  Calls Tryz.prog 62 #[.slice ai input.length ci,.slice ash S.length cs,u] w (zaU w (zL input S l)):=by
 obtain⟨b1,b2,d1,d2,rfl,r1,r2⟩:=hu.ex;have q1:=hi.len;have q2:=hS.len;have q3:=r1.len;have q4:=r2.len;obtain⟨HI,HS,HU,HRg,HLe,HN⟩:=hd6 hi hS hu hr hle hn;obtain⟨HKD,HVi⟩:=hd2 hk (fun W (hb:Below w.heap.size w W)=>zbu ci (hi.below hb));generalize hR:zL input S l=RR;have HR:=hid hR;unfold zL at hR;have HRd:=hid hR;clear hi hS hu r1 r2 hr hle hR hk
 go_enter Tryz.func62,Tryz.ntmps62
 go_upto_region 1 with fail
 have hb0:=blA w (zbG l b1 d1 b2 d2 44);have hx:=b9l w l b1 d1 b2 d2 44;generalize w.alloc (zbG l b1 d1 b2 d2 44)=W at *;obtain⟨HB0,HX,HVi2⟩:=hd3 hb0 hx (HVi.out W hb0);clear hb0 hx HVi;obtain⟨x0,x1,x2,x3,x4,x5,x6,x7,x8,xlt⟩:=HX.out
 cases hvi:zk input with
 | false=>
  exact UZ
 | true=>
  rw[hvi]at HVi2;have HVI:=hid hvi;clear hvi
  go_wp2_with fail
  refine HVi2.out.mono ?_
  rintro e w' ⟨rfl,rfl⟩
  go_wp2_with fail
  refine(zgt (HU.out.below HB0.out) HRg.out HLe.out S.length HN.out).mono ?_
  rintro e w1 ⟨rfl,hb1⟩;have HB1:=htr HB0 hb1;have HX1:=hid (HX.out.below hb1);clear hb1 x0 x1 x2 x3 x4 x5 x6 x7 x8 xlt HVi2
  cases hok:(decide (S.length+1<=64) && zai l S.length)with
  | false=>
   exact O6
  | true=>
   have HOK:=hid hok;clear hok;go_wp2
   go_loopw [8,9] (fun u i wr=>∃(j:Nat) (a:Option Addr) (c:Nat),j<=S.length/\i=.int .i64 (j:Int)/\u=.slice a (zh input (S.take j)).length c/\Hid (zah w1 Any a (zh input (S.take j)))/\Hid ((S.take j).all zk=true)/\Hid (w1=wr)) (fun _ i _=>S.length-(intOf i).toNat)
   case atStart=>exact⟨0,ai,ci,Zs _,rfl,rfl,HI.out.below HB1.out,rfl,rfl⟩
   case round=>
    obtain⟨j,a,c,hj,rfl,rfl,HA,HV,HW⟩:=hrel;have ew:=HW.out;clear HW;subst ew
    by_cases hlt:j<S.length
    ·exact Uv
    ·obtain rfl:j=S.length:=Ya;have HAl:Hid (S.all zk=true):=XB;rw[Zae]at HA⊢;have hcur:zk (zh input S)=true:=T4;have HRe:Hid ((if(za9 input S l).2 && zk (za9 input S l).1 then((za9 input S l).1,0)else([],7))=RR):=Ee;have hok2:zai l S.length=true:=YY;obtain⟨HOk2,HCur⟩:=hd2 hok2 hcur;have hcs:=zae hcur;obtain⟨z1,z2⟩:=hcs;have qc:=HA.out.len;have HSz:=hid (zmj c HA.out);obtain⟨x0,x1,x2,x3,x4,x5,x6,x7,x8,xlt⟩:=HX1.out;generalize hz:zt (zh input S)=sz at *;have HZ:=hid hz;clear hcur hok2 hz
     go_wp2_with fail
     refine HSz.out.mono ?_
     rintro e w' ⟨rfl,rfl⟩;have hk:=HKD.out;have HWn:=hid (zs4 c l.kh l.kw l.stride l.pad HA.out);obtain⟨⟨y1,y2⟩,y3,y4⟩:=zkI (zh input S) l;have hlen:=(zb0 HCur.out).1;obtain⟨bs,os,s0,rfl,cs0,hx0,_,hbs,_,s1,s2⟩:=HA.out.pick2 (k:=0) Ya;have hs0:(zh input S).getD 0 0=s0:=by rw[Zd,hx0];rfl
     have HS0:=hid hs0;have hs12:1<=s0/\s0<=16384:=zdh HCur.out _ (Zq hx0);rw[ZU]at cs0;obtain⟨HC0,HCl⟩:=hd2 cs0 hbs;have HP:Hid (∀e w',zcq w1 (zh input S) l.kh l.kw l.stride l.pad e w'->(∃a c,e=.returned (.tuple #[.slice a (zB (zh input S) l.kh l.kw l.stride l.pad).1.length c,.int .i64 (zay (zh input S) l).1,.int .i64 (zay (zh input S) l).2.1,.int .i64 (zay (zh input S) l).2.2]))/\Below w1.heap.size w1 w'):=fun e w' ⟨a,c,h1,_,h3⟩=>⟨⟨a,c,h1⟩,h3⟩
     have HWin:=hid (HWn.out.mono fun e w' h=>HP.out e w' h);generalize hZ:zay (zh input S) l=Z at *;have HZ2:=hid hZ;obtain⟨zR,zC,zE⟩:=Z;simp only at y1 y2 y3 y4 HWin;generalize(zB (zh input S) l.kh l.kw l.stride l.pad).1.length=wl at *;have hpos:0<(zh input S).length:=hlen;have HP0:=hid hpos;clear hZ hs0 hx0 cs0 hbs hlen HP HWn
     rcases hk with hk|hk|hk
     ·have hraw:za9 input S l=([l.out,zR,zC],decide (zE=0) && decide ((l.weights.length:Int)=l.out*s0*l.kh*l.kw)):=by unfold za9;rw[Zg Ya,Zm hk,HZ2.out,HS0.out]
      obtain⟨⟨o1,o2⟩,⟨g1,g2⟩,g3,g4⟩:=zqP HOk2.out hk;rw[hraw]at HRe;clear hraw;have k1:(l.kind==1)=false:=bn0 Ya;have k2:(l.kind==2)=true:=Yq;clear hk
      by_cases hE:zE=0
      ·have t1:(zE != 0)=false:=V8;have t2:(zE==0)=true:=V8;have t3:decide (¬ zE=0)=false:=KR
       go_wp2_with fail
       refine HWin.out.mono ?_
       rintro e w2 ⟨⟨aw,cw,rfl⟩,hb2⟩;have HB2:=htr HB1 hb2;have HX2:=hid (HX1.out.below hb2);have hc2:=(hb2.cell (p:=⟨bs,os,none⟩) HCl.out).trans HC0.out;have hl2:bs<w2.heap.size:=Zb HCl.out hb2.size;clear hb2 x0 x1 x2 x3 x4 x5 x6 x7 x8 xlt;obtain⟨x0,x1,x2,x3,x4,x5,x6,x7,x8,xlt⟩:=HX2.out;have f0:=zz x0 xlt;have f2:=zz x2 xlt;have f3:=zz x3 xlt;have f4:=zz x4 xlt;have f7:=zz x7 xlt;have fs:=zz hc2 hl2;have HHE:=hid hE;clear hE;obtain⟨⟨m1,m2⟩,⟨m3,m4⟩,m5,m6⟩:=zls o1 o2 hs12.1 hs12.2 g1 g2 g3 g4;obtain⟨p1,hp1⟩:∃p1,l.out*s0=p1:=⟨_,rfl⟩
       obtain⟨p2,hp2⟩:∃p2,p1*l.kh=p2:=⟨_,rfl⟩
       obtain⟨p3,hp3⟩:∃p3,p2*l.kw=p3:=⟨_,rfl⟩
       rw[hp1]at m1 m2 m3 m4 m5 m6;rw[hp2]at m3 m4 m5 m6;rw[hp3]at m5 m6;have u1:IntKind.i64.wrap (l.out*s0)=p1:=Jx;have u2:IntKind.i64.wrap (p1*l.kh)=p2:=Jy;have u3:IntKind.i64.wrap (p2*l.kw)=p3:=Jz;rw[hp1,hp2,hp3,HHE.out]at HRe;clear hp1 hp2 hp3 m1 m2 m3 m4 m5 m6
       by_cases he:(l.weights.length:Int)=p3
       ·have HF:Hid (RR=zoS [l.out,zR,zC]):=zen (r:=([l.out,zR,zC],decide ((0:Int)=0) && decide ((l.weights.length:Int)=p3))) Kp HRe.out;have v1:((l.weights.length:Int) != p3)=false:=Uc;have HAl3:Hid (∀W:World,zah (W.alloc (.cells #[.int .i64 l.out,.int .i64 zR,.int .i64 zC] 3)) Any (some ⟨W.heap.size,0,none⟩) [l.out,zR,zC]):=fun W=>zeA W l.out zR zC _ ⟨Ya,Ya⟩ ⟨Ya,Ya⟩ ⟨Ya,Ya⟩
        clear he HRe;go_wp2
        refine zx Yb Yb ?_
        repeat (go_big_quiet_step (fail))
        refine wpQuiet_nil ?_
        intro _ hw';obtain⟨nq,hw''⟩:=hw';subst hw'';obtain⟨HB3,HX3⟩:=hd2 (HB2.out.trans ((zF w2 nq).mono HB2.out.size)) (HX2.out.below (zF w2 nq));have hc3:=((zF w2 nq).cell (p:=⟨bs,os,none⟩) hl2).trans hc2;clear f0 f2 f3 f4 f7 fs x0 x1 x2 x3 x4 x5 x6 x7 x8 xlt hc2 hl2;generalize ext w2 nq=w8 at *;obtain⟨x0,x1,x2,x3,x4,x5,x6,x7,x8,xlt⟩:=HX3.out
        go_wp2_with fail
        refine(zfO 3 (HAl3.out _)).mono ?_
        rintro e w3 ⟨⟨a5,c5,rfl,hI5,hc5⟩,hb5⟩;obtain⟨HI5,HC5,HB5⟩:=hd3 hI5 hc5 hb5;clear hI5 hc5 hb5;go_wp2
        go_ret2
        rw[HF.out];exact zaU.up (w1:=w8.alloc (.cells #[.int .i64 l.out,.int .i64 zR,.int .i64 zC] 3)) ⟨⟨a5,c5,rfl,HI5.out,HC5.out⟩,HB5.out⟩ (HB3.out.alloc HB3.out.size _)
       ·have HF:Hid (RR=([],7)):=zg9 (r:=([l.out,zR,zC],decide ((0:Int)=0) && decide ((l.weights.length:Int)=p3))) Kp HRe.out;have v1:((l.weights.length:Int) != p3)=true:=Y2;clear he HRe;go_wp2
        refine zx Yb Yb ?_
        repeat (go_big_quiet_step (fail))
        refine wpQuiet_nil ?_
        intro _ hw';obtain⟨nq,hw''⟩:=hw';subst hw'';obtain⟨HB3,HX3⟩:=hd2 (HB2.out.trans ((zF w2 nq).mono HB2.out.size)) (HX2.out.below (zF w2 nq));have hc3:=((zF w2 nq).cell (p:=⟨bs,os,none⟩) hl2).trans hc2;clear f0 f2 f3 f4 f7 fs x0 x1 x2 x3 x4 x5 x6 x7 x8 xlt hc2 hl2;generalize ext w2 nq=w8 at *;obtain⟨x0,x1,x2,x3,x4,x5,x6,x7,x8,xlt⟩:=HX3.out;exact Eg
      ·have t1:(zE != 0)=true:=Vm;have t2:(zE==0)=false:=KA;have t3:decide (¬ zE=0)=true:=KR;have HF:Hid (RR=([],7)):=zg9 (r:=([l.out,zR,zC],decide (zE=0) && decide ((l.weights.length:Int)=l.out*s0*l.kh*l.kw))) KR HRe.out
       go_wp2_with fail
       refine HWin.out.mono ?_
       rintro e w2 ⟨⟨aw,cw,rfl⟩,hb2⟩;have HB2:=htr HB1 hb2;have HX2:=hid (HX1.out.below hb2);clear hb2 x0 x1 x2 x3 x4 x5 x6 x7 x8 xlt hE HRe;go_wp2
       refine zx Yb Yb ?_
       repeat (go_big_quiet_step (fail))
       refine wpQuiet_nil ?_
       intro _ hw';obtain⟨nq,hw''⟩:=hw';subst hw'';have HB3:=hid (HB2.out.trans ((zF w2 nq).mono HB2.out.size));generalize ext w2 nq=w8 at *;exact Eg
     ·have hraw:za9 input S l=([s0,zR,zC],decide (zE=0)):=YV;rw[hraw]at HRe;clear hraw;have k1:(l.kind==1)=false:=bn0 Ya;have k2:(l.kind==2)=false:=bn0 Ya;have k3:(l.kind==3)=true:=Yq;exact Uo
     ·have hraw:za9 input S l=([s0,zR,zC],decide (zE=0)):=YV;rw[hraw]at HRe;clear hraw;have k1:(l.kind==1)=false:=bn0 Ya;have k2:(l.kind==2)=false:=bn0 Ya;have k3:(l.kind==3)=false:=bn0 Ya;have k4:(l.kind==4)=true:=Yq;exact Uo
theorem zrr{w:World}{u:Value}{input:List Int}{S:List (List Int)}{l:zac}{ai ash:Option Addr}(ci cs:Nat)(hi:zah w Any ai input)(hS:zbd w Any ash S)(hu:zcV w u l)(hr:zQ l)(hle:zbF l)(hn:S.length<=1000)(hk:¬ (1<=l.kind/\l.kind<=7)):
  Calls Tryz.prog 62 #[.slice ai input.length ci,.slice ash S.length cs,u] w (zaU w (zL input S l)):=by
 obtain⟨b1,b2,d1,d2,rfl,r1,r2⟩:=hu.ex;have q1:=hi.len;have q2:=hS.len;have q3:=r1.len;have q4:=r2.len;obtain⟨HI,HS,HU,HRg,HLe,HN⟩:=hd6 hi hS hu hr hle hn;obtain⟨HKD,HVi⟩:=hd2 hk (fun W (hb:Below w.heap.size w W)=>zbu ci (hi.below hb));generalize hR:zL input S l=RR;have HR:=hid hR;unfold zL at hR;have HRd:=hid hR;clear hi hS hu r1 r2 hr hle hR hk
 go_enter Tryz.func62,Tryz.ntmps62
 go_upto_region 1 with fail
 have hb0:=blA w (zbG l b1 d1 b2 d2 44);have hx:=b9l w l b1 d1 b2 d2 44;generalize w.alloc (zbG l b1 d1 b2 d2 44)=W at *;obtain⟨HB0,HX,HVi2⟩:=hd3 hb0 hx (HVi.out W hb0);clear hb0 hx HVi;obtain⟨x0,x1,x2,x3,x4,x5,x6,x7,x8,xlt⟩:=HX.out
 cases hvi:zk input with
 | false=>
  exact UZ
 | true=>
  rw[hvi]at HVi2;have HVI:=hid hvi;clear hvi
  go_wp2_with fail
  refine HVi2.out.mono ?_
  rintro e w' ⟨rfl,rfl⟩
  go_wp2_with fail
  refine(zgt (HU.out.below HB0.out) HRg.out HLe.out S.length HN.out).mono ?_
  rintro e w1 ⟨rfl,hb1⟩;have HB1:=htr HB0 hb1;have HX1:=hid (HX.out.below hb1);clear hb1 x0 x1 x2 x3 x4 x5 x6 x7 x8 xlt HVi2;have hok:(decide (S.length+1<=64) && zai l S.length)=false:=by unfold zai;rw[zft l _ HKD.out];simp
  have HF:Hid (RR=([],1)):=YI;rw[hok];clear hok;exact Tx
theorem zr4{w:World}{u:Value}{input:List Int}{S:List (List Int)}{l:zac}{ai ash:Option Addr}(ci cs:Nat)(hi:zah w Any ai input)(hS:zbd w Any ash S)(hu:zcV w u l)(hr:zQ l)(hle:zbF l)(hn:S.length<=1000):
  Calls Tryz.prog 62 #[.slice ai input.length ci,.slice ash S.length cs,u] w (zaU w (zL input S l)):=by
 by_cases hk:1<=l.kind/\l.kind<=7
 ·have:(l.kind=1∨l.kind=5∨l.kind=6)∨(l.kind=2∨l.kind=3∨l.kind=4)∨l.kind=7:=Ya
  rcases this with h|h|h
  ·exact zqY ci cs hi hS hu hr hle hn h
  ·exact zrx ci cs hi hS hu hr hle hn h
  ·exact zqX ci cs hi hS hu hr hle hn h
 ·exact zrr ci cs hi hS hu hr hle hn hk
theorem zpU{W w1:World}{p bl o:Nat}{q0 q1 p0 p1 p2 p3 p4 p5 p6 p7 p8:Value}(hh:za1 W p q0 q1)(hbl:bl<W.heap.size)
 (hc:W.cell? ⟨bl,o,none⟩=some p0/\W.cell? ⟨bl,o+1,none⟩=some p1/\W.cell? ⟨bl,o+2,none⟩=some p2/\W.cell? ⟨bl,o+3,none⟩=some p3/\W.cell? ⟨bl,o+4,none⟩=some p4/\W.cell? ⟨bl,o+5,none⟩=some p5/\W.cell? ⟨bl,o+6,none⟩=some p6/\W.cell? ⟨bl,o+7,none⟩=some p7/\W.cell? ⟨bl,o+8,none⟩=some p8)(hb:Below W.heap.size W w1):
  w1.cell? ⟨p,0,none⟩=some q0/\w1.cell? ⟨p,1,none⟩=some q1/\w1.cell? ⟨bl,o,none⟩=some p0/\w1.cell? ⟨bl,o+1,none⟩=some p1/\w1.cell? ⟨bl,o+2,none⟩=some p2/\w1.cell? ⟨bl,o+3,none⟩=some p3/\w1.cell? ⟨bl,o+4,none⟩=some p4/\w1.cell? ⟨bl,o+5,none⟩=some p5/\w1.cell? ⟨bl,o+6,none⟩=some p6/\w1.cell? ⟨bl,o+7,none⟩=some p7/\w1.cell? ⟨bl,o+8,none⟩=some p8:=by
 obtain⟨h0,h1,h2,h3,h4,h5,h6,h7,h8⟩:=hc;exact⟨(hb.cell hh.lt).trans hh.c0,(hb.cell hh.lt).trans hh.c1,(hb.cell hbl).trans h0,(hb.cell hbl).trans h1,(hb.cell hbl).trans h2,(hb.cell hbl).trans h3,(hb.cell hbl).trans h4,(hb.cell hbl).trans h5,(hb.cell hbl).trans h6,(hb.cell hbl).trans h7,(hb.cell hbl).trans h8⟩
theorem zr3{w:World}{m:zec}{a1 a2:Option Addr}(c1 c2:Nat)(h1:zah w Any a1 m.input)(h2:zaK w a2 m.layers)(hr:∀l∈m.layers,zQ l)(hs:∀l∈m.layers,zbF l):
  Calls Tryz.prog 36 #[.agg #[.slice a1 m.input.length c1,.slice a2 m.layers.length c2]] w (zoH w (zI m)):=by
 have q1:=h1.len;have q2:=h2.len;obtain⟨H1,H2,HRg,HSh⟩:=hd4 h1 h2 hr hs;generalize hR:zI m=RR;have HR:=hid hR;unfold zI at hR;have HRd:=hid hR;clear h1 h2 hr hs hR
 go_enter Tryz.func36,Tryz.ntmps36
 go_upto_region 1 with fail
 have hb0:=blA w (.cells #[.slice a1 m.input.length c1,.slice a2 m.layers.length c2] 25);have hx:=za1.alloc w (.slice a1 m.input.length c1) (.slice a2 m.layers.length c2) 25;generalize w.alloc (.cells #[.slice a1 m.input.length c1,.slice a2 m.layers.length c2] 25)=W at *;obtain⟨HB0,HX⟩:=hd2 hb0 hx;obtain⟨x0,x1,xf,xlt⟩:=hx;clear hb0
 go_wp2_with fail
 refine(zlp c1 c2 (H1.out.below HB0.out) (H2.out.below HB0.out) HRg.out HSh.out).mono ?_
 rintro e w1 ⟨rfl,hb1⟩;have HX1:=hid (HX.out.below hb1);have HB1:=htr HB0 hb1;clear hb1 x0 x1 xf xlt
 cases hvm:zbe m with
 | false=>
  exact EG
 | true=>
  have HRe:Hid (zW m.input [] m.layers=RR):=Kj;have hv:=zi6 hvm;have HL64:=hid hv.2.1;have hl64:=hv.2.1;obtain⟨HVI,HAt⟩:=hd2 hv.1 hv.2.2;obtain⟨x0,x1,xf,xlt⟩:=HX1.out;clear hvm hv;go_wp2;clear x0 x1 xf xlt
  go_loopw [5,6] (fun u i wr=>∃(j:Nat) (xs:List Value) (T:List (List Int)),j<=m.layers.length/\i=.int .i64 (j:Int)/\Hid (T.length=j)/\Hid (zW m.input T (m.layers.drop j)=RR)/\Hid (T.all zk=true)/\Hid (zcU wr w1.heap.size 22 u xs T)/\Hid (Below w1.heap.size w1 wr)) (fun _ i _=>m.layers.length-(intOf i).toNat)
  case atStart=>exact⟨0,[],[],Zs _,rfl,rfl,HRe.out,rfl,zcU.nil _ _ _,Ze _ _⟩
  case round=>
   obtain⟨j,xs,T,hj,rfl,HTl,HS,HTv,HOw,HB⟩:=hrel;have hbw:=HB1.out.trans (HB.out.mono HB1.out.size);obtain⟨av,cv,hu,hT⟩:=HOw.out.intss Km;rw[HTl.out]at hu;subst hu
   by_cases hlt:j<m.layers.length
   ·obtain⟨x0,x1,xf,xlt⟩:=HX1.out.below HB.out;obtain⟨bl,ol,l,rfl,hbl,hl,b1,b2,d1,d2,⟨l0,l1,l2,l3,l4,l5,l6,l7,l8⟩,r1,r2⟩:=(H2.out.below hbw).pick hlt;have hmem:=Zq hl;have hdrop:m.layers.drop j=l::m.layers.drop (j+1):=UV;have HStep:Hid ((if(zL m.input T l).2=0 then zW m.input (T++[(zL m.input T l).1]) (m.layers.drop (j+1))else([],(j:Int),(zL m.input T l).2))=RR):=by
     have:=HS.out;rw[hdrop,zbP,HTl.out]at this;exact this
    have HO:=hid (fun W (hb:Below wr.heap.size wr W)=>zr4 (w:=W) (u:=.agg #[.int .i64 l.kind,.int .i64 l.frm,.int .i64 l.out,.int .i64 l.kh,.int .i64 l.kw,.int .i64 l.stride,.int .i64 l.pad,.slice b1 l.weights.length d1,.slice b2 l.bias.length d2]) c1 cv (H1.out.below (hbw.trans (hb.mono hbw.size))) ((hT.mono (F':=Any) (fun _ _ _=>trivial)).below hb) ⟨b1,b2,d1,d2,rfl,r1.below hb,r2.below hb⟩ (HRg.out l hmem) (HSh.out l hmem) Km);have hlay:=HAt.out j l hl;have HSev:Hid ((zL m.input T l).2≠0->(zL m.input T l).2=7):=fun h=>zgX HVI.out Km (by rw[HTl.out];exact hlay) HTv.out h
    have HVal:Hid ((zL m.input T l).2=0->zk (zL m.input T l).1=true):=fun h=>zcP h
    have p1:=r1.len;have p2:=r2.len;have HLy:Hid (zkH wr bl (ol+j*9) l/\bl<wr.heap.size/\za1 wr w.heap.size (.slice a1 m.input.length c1) (.slice (some ⟨bl,ol,none⟩) m.layers.length c2)):=⟨⟨b1,b2,d1,d2,⟨l0,l1,l2,l3,l4,l5,l6,l7,l8⟩,r1,r2⟩,hbl,HX1.out.below HB.out⟩
    have HCe:Hid (wr.cell? ⟨bl,ol+j*9,none⟩=some (.int .i64 l.kind)/\wr.cell? ⟨bl,ol+j*9+1,none⟩=some (.int .i64 l.frm)/\wr.cell? ⟨bl,ol+j*9+2,none⟩=some (.int .i64 l.out)/\wr.cell? ⟨bl,ol+j*9+3,none⟩=some (.int .i64 l.kh)/\wr.cell? ⟨bl,ol+j*9+4,none⟩=some (.int .i64 l.kw)/\wr.cell? ⟨bl,ol+j*9+5,none⟩=some (.int .i64 l.stride)/\wr.cell? ⟨bl,ol+j*9+6,none⟩=some (.int .i64 l.pad)/\wr.cell? ⟨bl,ol+j*9+7,none⟩=some (.slice b1 l.weights.length d1)/\wr.cell? ⟨bl,ol+j*9+8,none⟩=some (.slice b2 l.bias.length d2)):=⟨l0,l1,l2,l3,l4,l5,l6,l7,l8⟩
    rw[HTl.out]at HO;have HO2:=hid (fun W (hb:Below wr.heap.size wr W)=>(HO.out W hb).mono fun e w' (h:zaU W (zL m.input T l) e w')=>(⟨h,hb.trans (h.2.mono hb.size)⟩:zaU W (zL m.input T l) e w'/\Below wr.heap.size wr w'));have xbl:Below wr.heap.size wr wr.drew:=(Ze _ _).drew;have hli:(0:Int)<=(j:Int):=Ya;have hli2:(j:Int)<(m.layers.length:Int):=Ya;generalize zL m.input T l=P at *;obtain⟨o,er⟩:=P;simp only at HStep HSev HVal;have hjm:j*9=j*9:=rfl;clear hmem hl hdrop hbw hT r1 r2 HS hlay HO l0 l1 l2 l3 l4 l5 l6 l7 l8 hjm
    go_upto_region 7 with fail
    clear x0 x1 xf xlt
    go_region_held3 (fun w'=>w'.cell? ⟨w.heap.size,0,none⟩=some (.slice a1 m.input.length c1)/\w'.cell? ⟨w.heap.size,1,none⟩=some (.slice (some ⟨bl,ol,none⟩) m.layers.length c2)/\w'.cell? ⟨bl,ol+j*9,none⟩=some (.int .i64 l.kind)/\w'.cell? ⟨bl,ol+j*9+1,none⟩=some (.int .i64 l.frm)/\w'.cell? ⟨bl,ol+j*9+2,none⟩=some (.int .i64 l.out)/\w'.cell? ⟨bl,ol+j*9+3,none⟩=some (.int .i64 l.kh)/\w'.cell? ⟨bl,ol+j*9+4,none⟩=some (.int .i64 l.kw)/\w'.cell? ⟨bl,ol+j*9+5,none⟩=some (.int .i64 l.stride)/\w'.cell? ⟨bl,ol+j*9+6,none⟩=some (.int .i64 l.pad)/\w'.cell? ⟨bl,ol+j*9+7,none⟩=some (.slice b1 l.weights.length d1)/\w'.cell? ⟨bl,ol+j*9+8,none⟩=some (.slice b2 l.bias.length d2))
     (first|exact zpU HLy.out.2.2 HLy.out.2.1 HCe.out YS)
     (first
      | (go_at_call 62; refine (HO2.out _ ?hb).mono ?_
         case hb=>assumption
         rintro e w2 ⟨⟨⟨a5,c5,rfl,hI5,hc5⟩,hb9⟩,p3⟩))
    all_goals
    have hb2:Below wr.heap.size wr w2:=p3;have HB2:=htr HB hb2;obtain⟨HOw2,HI5,HC5⟩:=hd3 (HOw.out.frame hb2) hI5 hc5;have HLt:Hid (∀b,(Value.slice av j cv).ownBlock=some b->b<wr.heap.size):=fun b hb=>HOw.out.lt b hb
    have hgeV:Hid (w1.heap.size<=wr.heap.size):=HB.out.size;have HX2:=hid (HX1.out.below HB2.out);clear hI5 hc5 hb2 p3 hb9 HO2 xbl HLy HCe
    by_cases he:er=0
    ·have HStep2:Hid (zW m.input (T++[o]) (m.layers.drop (j+1))=RR):=KJ;have t1:(er != 0)=false:=Uj;have t2:(er==0)=true:=Uj;have t3:decide (¬ er=0)=false:=Kp;obtain⟨HTj,HV2⟩:=hd2 (show j<64 from Ya) (HVal.out he);clear he
     go_wp2_with (at_builtin;refine zao rfl (.tmp 34) (.tmp 36) 65 rfl w1.heap.size 22 (.slice none 0 0) 24 Tryz.underlying65 Yb rfl (.slice av j cv) j xs rfl KO (.slice a5 o.length c5) rfl rfl (by have:=HTj.out;omega) V6 (by exact HB2.out.size) ?_;intro v' w' hown hg hn2;have HOwn:=hid hown;have HG:=hid hg;have HN2:=hid hn2;clear hown hg hn2)
     have happ:=HOw2.out.app (l:=o) HI5.out HC5.out (fun b hb=>⟨Zi hgeV.out hb,fun e=>by have:=HLt.out b e;have h2:wr.heap.size<=b:=hb;omega⟩) (by rw[HTl.out];exact HOwn.out) HG.out HN2.out;obtain⟨HApp,HB3⟩:=hd2 happ (HB2.out.grown HG.out HB2.out.size (fun k hk=>(HOw2.out.own.lt k hk).1));clear happ;go_roundw
     case rel=>exact⟨j+1,_,T++[o],hlt,Yg,KU,HStep2.out,by unfold Hid;rw[Zbx,HTv.out,List.all_cons,List.all_nil,HV2.out];rfl,HApp.out,HB3.out⟩
     case measure=>simp[intOf];omega
    ·have HF:Hid (RR=([],(j:Int),7)):=by unfold Hid;rw[<- HStep.out,Zg he,HSev.out he]
     have t1:(er != 0)=true:=Y2;have t2:(er==0)=false:=by rw[Zaf];exact he
     exact Ej
   ·obtain rfl:j=m.layers.length:=Ya;have HF:Hid (RR=(T,0,0)):=by
     have h:=HS.out;rw[Zbr]at h;exact h.symm
    obtain⟨HT,HBw⟩:=hd2 hT hbw;obtain⟨x0,x1,xf,xlt⟩:=HX1.out.below HB.out;exact TX
theorem zc4{fn:Func}{t u:Tmp}(h:fn.results=#[.tmp t,.tmp u])(tmps:Array Value)(P:Program)(w:World):
  (results fn tmps).run P w=.ok (.tuple #[tmps.getD t undef,tmps.getD u undef]) w:=by
 simp[results,h]
theorem zpy{input:List Int}{S:List (List Int)}{l:zac}(h:(zL input S l).2=0)(hk:l.kind≠7):l.frm=0:=by
 rcases zaW input S l with⟨h1,_,_⟩|⟨hc,_⟩
 ·omega
 ·simp only[Zu]at hc;obtain⟨⟨_,_,hl⟩,_⟩:=hc;unfold zai at hl;rw[Zu]at hl;obtain⟨hl,_⟩:=hl;unfold zcT at hl
  split at hl
  ·exact EH
  ·split at hl
   ·exact EH
   ·split at hl
    ·exact EH
    ·split at hl
     ·exact EH
     ·first|(rw[Zg hk]at hl;cases hl)|cases hl
def zr5(wr:World)(I:List Int)(X:List zaf)(s11 s12:Value)(wx:World):Prop:=∃aI cI aX cX,s11=.slice aI I.length cI/\s12=.slice aX X.length cX/\Hid (zah wx Any aI I)/\Hid (zm wx aX X)/\Hid (Below wr.heap.size wr wx)
def zr8(wx:World)(kd:Int)(F:List zaf)(s13:Value)(wy:World):Prop:=wy=wx/\∃aF nF cF,s13=.slice aF nF cF/\Hid (kd=7->nF=F.length/\zm wx aF F)
theorem zpf{w:World}{m:zec}{a1 a2 ax:Option Addr}{x:List Rat}{D B:Nat}(c1 c2 cx:Nat)(h1:zah w Any a1 m.input)(h2:zaK w a2 m.layers)(hcap:zqO w a2 m.layers)(hr:∀l∈m.layers,zQ l)(hs:∀l∈m.layers,zbF l)
 (hX:zm w ax (x.map zc))(hsm:∀l∈m.layers,zbN l)(hxB:BdL D B x)(hD:0<D)(hB:1<=B)(hl12:m.layers.length<=12)(hroom:zdz 12 D B):
  Calls Tryz.prog 39 #[.agg #[.slice a1 m.input.length c1,.slice a2 m.layers.length c2],.slice ax x.length cx] w (zoz w (zcv m x)):=by
 have q1:=h1.len;have q2:=h2.len;have q3:=hX.len;rw[Zv]at q3;obtain⟨H1,H2,HX0,HCap,HRg,HSh⟩:=hd6 h1 h2 hX hcap hr hs;obtain⟨HSm,HxB,HRoom⟩:=hd3 hsm hxB hroom;generalize hR:zcv m x=RR;unfold zcv at hR;have HRd:=hid hR;clear h1 h2 hr hs hR hX hcap hsm hxB hroom
 go_enter Tryz.func39,Tryz.ntmps39
 go_upto_region 1 with fail
 have hb0:=blA w (.cells #[.slice a1 m.input.length c1,.slice a2 m.layers.length c2] 25);have hx:=za1.alloc w (.slice a1 m.input.length c1) (.slice a2 m.layers.length c2) 25;generalize w.alloc (.cells #[.slice a1 m.input.length c1,.slice a2 m.layers.length c2] 25)=W at *;obtain⟨HB0,HX⟩:=hd2 hb0 hx;obtain⟨x0,x1,xf,xlt⟩:=hx;clear hb0
 go_wp2_with fail
 refine(zr3 c1 c2 (H1.out.below HB0.out) (H2.out.below HB0.out) HRg.out HSh.out).mono ?_
 rintro e w1 ⟨⟨aS,cS,rfl,hI⟩,hb1⟩;have HX1:=hid (HX.out.below hb1);have HB1:=htr HB0 hb1;clear hb1 x0 x1 xf xlt
 by_cases he:(zI m).2.2=0
 ·rcases zaA m with⟨_,k⟩|⟨hvm,⟨T,hch,hT⟩|⟨k,_⟩⟩
  ·rw[k]at he;simp at he
  ·rw[hT]at hI⊢;rw[Zm he]at HRd;simp only at hI⊢;obtain⟨HI,HCh⟩:=hd2 hI hch;have hTl:T.length=m.layers.length:=hch.1;have HSz:=hid (zmj c1 (H1.out.below HB1.out));obtain⟨x0,x1,xf,xlt⟩:=HX1.out;clear he hI hch hT hvm
   by_cases hsz:(x.length:Int)=zt m.input
   ·rw[Zm hsz]at HRd;have HSe0:=hid hsz;generalize hnn:zt m.input=n at HSz hsz;clear hnn;have t1:((x.length:Int) != n)=false:=by rw[hsz];simp
    have t2:decide (¬ (x.length:Int)=n)=false:=by simp[hsz]
    clear hsz
    go_wp2_with fail
    refine HSz.out.mono ?_
    rintro e w2 ⟨rfl,rfl⟩;have HTr:Hid (TrI m.input x [] [] D B):=⟨rfl,Yc,HSe0.out,hD,hB,HxB.out,Yc⟩
    go_wp2;clear x0 x1 xf xlt
    go_loopw [9,10] (fun v i wr=>∃(j:Nat) (a:Option Addr) (c:Nat) (Y:List (List Rat)) (D' B':Nat),j<=m.layers.length/\v=.slice a j c/\i=.int .i64 (j:Int)/\Hid (zdP wr w1.heap.size (.slice a j c) (Y.map (fun y=>y.map zc)))/\Hid (Below w1.heap.size w1 wr)/\Hid (Y.length=j)/\
     Hid (TrI m.input x (T.take j) Y D' B')/\Hid (zdz (12-j) D' B')/\Hid (zaN m.input x (T.take j) Y (m.layers.drop j)=zdM m x)) (fun _ i _=>m.layers.length-(intOf i).toNat)
    case atStart=>exact⟨0,none,0,[],D,B,Zs _,rfl,rfl,zdP.nil _ _,Ze _ _,rfl,HTr.out,HRoom.out,rfl⟩
    case round=>
     obtain⟨j,av,cv,Y,D',B',hj,rfl,rfl,HOw,HB,HYl,HTrI,HRm,HTq⟩:=hrel;obtain⟨x0,x1,xf,xlt⟩:=HX1.out.below HB.out
     by_cases hlt:j<m.layers.length
     ·have hbw:=HB1.out.trans (HB.out.mono HB1.out.size);obtain⟨bl,ol,l,rfl,hbl,hl,b1,b2,d1,d2,⟨l0,l1,l2,l3,l4,l5,l6,l7,l8⟩,r1,r2⟩:=(H2.out.below hbw).pick hlt;have hmem:=Zq hl;have hcp:l.weights.length<=d1:=(HCap.out.below H2.out hbw) bl ol j l b1 _ d1 rfl hl l7;have hTj:T[j]? =some (T[j]' Ya):=Zh _;have hout:=HCh.out.2 j _ l hTj hl;rw[ZaV]at hout;have hdrop:m.layers.drop j=l::m.layers.drop (j+1):=UV;have hq:=HTq.out;rw[hdrop]at hq;have hq2:zaN m.input x (T.take (j+1)) (Y++[zgx l (zh m.input (T.take j)) (zbj x Y) (zbE x Y l.frm)]) (m.layers.drop (j+1))=zdM m x:=by
       rw[<- hq];show _=zaN m.input x (T.take j++[(zL m.input (T.take j) l).1]) _ _
       rw[hout,Zap,hTj];rfl
      have hf0:(zL m.input (T.take j) l).2=0:=by rw[hout]
      obtain⟨hfit,hnum,h7⟩:=zev hf0;obtain⟨hcx,hcB⟩:=HTrI.out.curr;have hvc:zk (zh m.input (T.take j))=true:=UH;obtain⟨kk,k1,k2,k3⟩:=HTrI.out.step hf0 (HSm.out l hmem) hvc;rw[hout,show T.take j++[T[j]' Ya]=T.take (j+1) by rw[Zap,hTj];rfl]at k3;have hsz2:=zae hvc;have HLay:Hid (∀(W':World) (aX aF aI:Option Addr) (cI cX nF cF:Nat),Below wr.heap.size wr W'->zah W' Any aI (zh m.input (T.take j))->zm W' aX ((zbj x Y).map zc)->(l.kind=7->nF=(zbE x Y l.frm).length/\zm W' aF ((zbE x Y l.frm).map zc)/\(zbj x Y).length<=(zbE x Y l.frm).length)->
        Calls Tryz.prog 68 #[zcf l.kind l.frm l.out l.kh l.kw l.stride l.pad b1 l.weights.length d1 b2 l.bias.length d2,.slice aI (zh m.input (T.take j)).length cI,.slice aX (zbj x Y).length cX,.slice aF nF cF] W' (zcF W' ((zgx l (zh m.input (T.take j)) (zbj x Y) (zbE x Y l.frm)).map zc))):=
       fun W' aX aF aI cI cX nF cF hb hI' hX' h7'=>
       zpD d1 d2 cI cX nF cF hfit hnum hcx Ya Ya (r1.below hb) (r2.below hb) hcp hI' hX' h7' (HSm.out l hmem) hcB (HTrI.out.frm l.frm) HTrI.out.hD HTrI.out.hB HRm.out.now
      have hlen7:l.kind=7->(zbj x Y).length<=(zbE x Y l.frm).length:=by
       intro hk7;obtain⟨g1,g2,g3⟩:=h7 hk7;have hy:((zbE x Y l.frm).length:Int)=zt (zh m.input (T.take j)):=by
        rw[<- g3];unfold zbE
        by_cases h0:0<=l.frm
        ·rw[Zm h0,Zm h0];have hlt1:l.frm.toNat<(T.take j).length:=Ya;have hlt2:l.frm.toNat<Y.length:=by rw[<- HTrI.out.len];exact hlt1
         rw[Zd,Zd,Zh hlt1,Zh hlt2];exact HTrI.out.size _ _ _ (Zh hlt1) (Zh hlt2)
        ·rw[Zg h0,Zg h0];exact HTrI.out.x0
       omega
      obtain⟨HLen7,HOut2,HQ2,K1,K2,K3⟩:=hd6 hlen7 hout hq2 k1 k2 k3;have hYl:(Y.map (fun y:List Rat=>y.map zc)).length=j:=VG;have HRows:=hid (HOw.out.rows (by rw[hYl];omega));have HF7:Hid (l.kind=7->0<=l.frm->l.frm.toNat<j):=fun hk7 hf=>by
       obtain⟨g1,g2,g3⟩:=h7 hk7;have:l.frm.toNat<(T.take j).length:=Ya;rw[Z8]at this;omega
      have HF0:Hid (l.kind≠7->l.frm=0):=zpy hf0;obtain⟨HI2,HLc⟩:=hd2 (HI.out.below HB.out) hcx;clear hlen7 hout hq2 k1 k2 k3 hYl h7 hfit hnum hcx hcB hvc hsz2 hf0 hdrop hq hTj hmem
      go_upto_if 40 with fail
      go_cut [11,12] (fun s11 s12 wx=>zr5 wr (zh m.input (T.take j)) ((zbj x Y).map zc) s11 s12 wx)
      case first=>
       by_cases h0:0<j
       ·obtain⟨i,hi⟩:∃i,j=i+1:=⟨j-1,Ya⟩
        obtain⟨bT,oT,t,aT,ct,haT,tc0,hTi,htc,hIt,hbT,_⟩:=HI2.out.pickc (k:=i) (by rw[hTl];omega);obtain⟨bY,oY,y,ay,cy,haY,yc0,hYi,hyc,hRy,hbY⟩:=HRows.out.pick (k:=i) Vu;have E1:Hid (zh m.input (T.take j)=t):=by
         unfold Hid zh;rw[List.getLast?_take,Zg Ya,show j-1=i from Ya,hTi];rfl
        have E2:Hid ((zbj x Y).map zc=y):=by
         unfold Hid zbj;rw[ZN]at hYi;rw[Zah,HYl.out,show j-1=i from Ya]
         cases hy:Y[i]? with
         | none=>rw[hy]at hYi;cases hYi
         | some z=>rw[hy]at hYi;exact Option.some.inj hYi
        have m0:(j:Int)-1=(i:Int):=Ya;have q0:decide ((0:Int)<(j:Int))=true:=Zk Ya;obtain⟨HIt,HRy⟩:=hd2 hIt hRy;have hiT:i<m.layers.length:=Ya;have hij:i<j:=Ya;subst haT haY;clear hTi hYi hIt hRy hi l0 l1 l2 l3 l4 l5 l6 l7 l8 x0 x1
        go_upto_region 12 with fail
        go_quiet (fail)
        go_wp2
        go_meet
        rw[E1.out,E2.out];have hdn:Below wr.heap.size wr (wr.drewN nq):=below_drewN (Ze _ _) nq;exact⟨_,_,_,_,rfl,rfl,(HIt.out.below hdn).mono (fun _ _ _=>trivial),HRy.out.below hdn,hdn⟩
       ·have hj0:j=0:=Ya;have E1:Hid (zh m.input (T.take j)=m.input):=by
         unfold Hid zh;rw[hj0];rfl
        have E2:Hid (zbj x Y=x):=by
         unfold Hid zbj;rw[Zy (HYl.out.trans hj0)];rfl
        have q0:decide ((0:Int)<(j:Int))=false:=Zj Ya;clear hj0;go_wp2
        go_meet
        rw[E1.out,E2.out];have hbw':=HB1.out.trans (HB.out.mono HB1.out.size);exact⟨_,_,_,_,rfl,by rw[Zv],(H1.out.below hbw').mono (fun _ _ _=>trivial),HX0.out.below hbw',Ze _ _⟩
      case rest=>
       obtain⟨aI,cI,aX,cX,rfl,rfl,HIc,HXc,HBc⟩:=hcut;have x0:=(HBc.out.cell (p:=⟨w.heap.size,0,none⟩) xlt).trans x0;have x1:=(HBc.out.cell (p:=⟨w.heap.size,1,none⟩) xlt).trans x1;have hc9:=fun o=>HBc.out.cell (p:=⟨bl,o,none⟩) hbl
       have l0:=(hc9 _).trans l0;have l1:=(hc9 _).trans l1;have l2:=(hc9 _).trans l2;have l3:=(hc9 _).trans l3;have l4:=(hc9 _).trans l4;have l5:=(hc9 _).trans l5;have l6:=(hc9 _).trans l6;have l7:=(hc9 _).trans l7;have l8:=(hc9 _).trans l8;have hbl2:=Zb hbl HBc.out.size;have xlt2:=Zb xlt HBc.out.size;rw[Zv];clear hc9 hbl xlt xf
       go_upto_region 14 with fail
       go_cut [62] (fun s62 wy=>s62=.bool (decide (0<=l.frm/\0<j))/\wy=wc)
       case first=>
        by_cases hff:0<=l.frm
        ·have q1:decide (0<=l.frm)=true:=Zk hff
         by_cases h0:0<j
         ·have q0:decide ((0:Int)<(j:Int))=true:=Zk Ya;have q2:decide (0<=l.frm/\0<j)=true:=Zk ⟨hff,h0⟩;exact TD
         ·have q0:decide ((0:Int)<(j:Int))=false:=Zj Ya;have q2:decide (0<=l.frm/\0<j)=false:=Zj (fun h=>h0 h.2);exact TD
        ·have q1:decide (0<=l.frm)=false:=Zj hff;have q2:decide (0<=l.frm/\0<j)=false:=Zj (fun h=>hff h.1);exact TD
       case rest=>
       obtain⟨rfl,rfl⟩:=hcut
       go_upto_if 62 with fail
       go_cut [13] (fun s13 wy=>zr8 wc l.kind ((zbE x Y l.frm).map zc) s13 wy)
       case first=>
        by_cases hff:0<=l.frm
        ·by_cases h0:0<j
         ·obtain⟨f,hf⟩:∃f:Nat,l.frm=(f:Int):=⟨l.frm.toNat,Ya⟩
          have hfj:f<j:=by
           by_cases h7:l.kind=7
           ·have:=HF7.out h7 hff;omega
           ·have:=HF0.out h7;omega
          obtain⟨bY,oY,y,ay,cy,haY,yc0,hYi,hyc,hRy,hbY⟩:=HRows.out.pick (k:=f) Vu;have E2:Hid ((zbE x Y l.frm).map zc=y):=by
           unfold Hid zbE;rw[ZN]at hYi;rw[Zm hff,hf,ZaH,Zd]
           cases hy:Y[f]? with
           | none=>rw[hy]at hYi;cases hYi
           | some z=>rw[hy]at hYi;exact Option.some.inj hYi
          have q0:decide ((0:Int)<(j:Int))=true:=Zk Ya;have q1:decide ((0:Int)<=(f:Int))=true:=Zk Ya;have HRy:=hid (hRy.below HBc.out);have yc0:=(HBc.out.cell (p:=⟨bY,oY+f,none⟩) hbY).trans yc0;have hbY2:=Zb hbY HBc.out.size;have Hf:=hid hf;rw[hf]at l1⊢;subst haY;clear hYi hRy hf hff;have q2:decide (0<=(f:Int)/\0<j)=true:=Zk ⟨Ya,h0⟩;rw[q2];go_wp2
          go_meet
          rw[E2.out];exact⟨rfl,_,_,_,rfl,fun _=>⟨rfl,HRy.out⟩⟩
         ·have q2:decide (0<=l.frm/\0<j)=false:=Zj (fun h=>h0 h.2);have HFF:Hid (l.kind=7->x.length=((zbE x Y l.frm).map zc).length/\zm wc ax ((zbE x Y l.frm).map zc)):=fun h7=>absurd (HF7.out h7 hff) Ya
          rw[q2];clear hff;go_wp2
          go_meet
          exact⟨rfl,_,_,_,rfl,HFF.out⟩
        ·have q2:decide (0<=l.frm/\0<j)=false:=Zj (fun h=>hff h.1);have HFF:Hid (l.kind=7->x.length=((zbE x Y l.frm).map zc).length/\zm wc ax ((zbE x Y l.frm).map zc)):=fun h7=>by
          unfold zbE;rw[Zg hff,Zv];exact⟨rfl,HX0.out.below (HB1.out.trans ((HB.out.trans (HBc.out.mono HB.out.size)).mono HB1.out.size))⟩
         rw[q2];clear hff;go_wp2
         go_meet
         exact⟨rfl,_,_,_,rfl,HFF.out⟩
       case rest=>
        obtain⟨rfl,aF,nF,cF,rfl,HFF⟩:=hcut;have HL:=hid (HLay.out wc aX aF aI cI cX nF cF HBc.out HIc.out HXc.out (fun h7=>by
         obtain⟨g1,g2⟩:=HFF.out h7;rw[Zv]at g1;exact⟨g1,g2,HLen7.out h7⟩))
        clear HFF;unfold zcf at HL;obtain⟨ly,hly⟩:∃ly,ly=zgx l (zh m.input (T.take j)) (zbj x Y) (zbE x Y l.frm):=⟨_,rfl⟩
        rw[<- hly]at HL HQ2 K3;generalize(zh m.input (T.take j)).length=nI at *;generalize(zbj x Y).length=nX at *;clear hly HLay
        go_wp2_with fail
        refine HL.out.mono ?_
        rintro e w3 ⟨aR,cR,rfl,hcR,hR,hb⟩;obtain⟨HOw3,HB3,HR⟩:=hd3 ((HOw.out.below HBc.out).below hb) (HB.out.trans ((HBc.out.trans (hb.mono HBc.out.size)).mono HB.out.size)) hR;obtain⟨nR,hnR⟩:∃nR,nR=(ly.map zc).length:=⟨_,rfl⟩
        rw[<- hnR]at hcR⊢;have HNR:=hid hnR.symm;have HYn:Hid ((Y.map (fun y:List Rat=>y.map zc)).length=j):=by unfold Hid;rw[Zv];exact HYl.out
        clear hb hR hnR HL
        go_wp2_with (at_builtin;refine zjb rfl (.tmp 72) (.tmp 82) 77 rfl w1.heap.size Tryz.underlying77 Yb (.slice av j cv) j _ HYn.out rfl HOw3.out (ly.map zc) nR HNR.out aR cR hcR HR.out rfl Ya HB3.out.size ?_;intro b3 k3 w4 hown hk3 hbe;have HOw4:=hid (show zdP w4 w1.heap.size (.slice b3 (j+1) k3) ((Y++[ly]).map (fun y=>y.map zc))from by rw[Zay];exact hown);have HB4:=hid (HB3.out.trans hbe);clear hown hbe)
        go_roundw
        case rel=>
         refine⟨j+1,b3,k3,Y++[ly],D'*kk,9671406556917033397649408*B',hlt,rfl,Yg,HOw4.out,HB4.out,?_,K3.out,?_,HQ2.out⟩
         ·unfold Hid;rw[ZE,HYl.out];rfl
         exact EW
        case measure=>simp[intOf];omega
     ·obtain rfl:j=m.layers.length:=Ya;have HF:Hid (RR=(Y.map (fun y=>y.map zc),0)):=by
       have h:=HTq.out;rw[Zbr]at h;unfold Hid;rw[<- HRd.out,<- h];rfl
      have hYl:(Y.map (fun y:List Rat=>y.map zc)).length=m.layers.length:=VG;have hcv:(Y.map (fun y:List Rat=>y.map zc)).length<=cv:=by
       obtain⟨xs,ho,_⟩:=HOw.out.ex;rw[hYl]at ho;obtain⟨a',c',e,hc⟩:=zfC ho;cases e;rw[hYl];exact hc
      have hrows:=HOw.out.rows (by rw[hYl];omega);have hPost:zoz w RR (.returned (.tuple #[.slice av m.layers.length cv,.int .i64 0])) wr:=by
       rw[HF.out];exact⟨av,cv,by rw[hYl],hcv,hrows,HB1.out.trans (HB.out.mono HB1.out.size)⟩
      have HPost:=hid hPost;clear hPost hrows hcv hYl;go_wp2
      refine Zp (zc4 rfl _ _ _) rfl ?_
      exact HPost.out
   ·rw[Zg hsz]at HRd;have HF:=hid HRd.out.symm;generalize zt m.input=n at *;have t1:((x.length:Int) != n)=true:=by rw[bne_iff_ne];exact hsz
    clear hsz
    go_wp2_with fail
    refine HSz.out.mono ?_
    rintro e w2 ⟨rfl,rfl⟩;exact Iu
  ·omega
 ·rw[Zg he]at HRd;generalize(zI m).2.2=er at *;generalize(zI m).2.1=ei at *;have t1:(er != 0)=true:=Y2;have HF:=hid HRd.out.symm;clear he hI;exact Iu
def zsJ(m:zec)(x:List Rat):List zaf×Int:=if(zcv m x).2=0 then((zcv m x).1.getLast?.getD (x.map zc),0)else([],(zcv m x).2)
def zfB(w:World)(R:List zaf×Int)(e:Ending)(w':World):Prop:=∃a c,e=.returned (.tuple #[.slice a R.1.length c,.int .i64 R.2])/\R.1.length<=c/\zm w' a R.1/\Below w.heap.size w w'
theorem znl{w wa w':World}{v:Value}{a:Option Addr}{L:List zaf}{n:Nat}{news:List Value}(hn:L.length=n)(hl:n<=9223372036854775807)(hb:Below w.heap.size w w')
 (hnews:∀(j:Nat) (x:zaf),L[j]? =some x->∃(an ad:Option Addr) (cn cd:Nat),news[j*3]? =some (.bool x.neg)/\news[j*3+1]? =some (.slice an x.num.length cn)/\news[j*3+2]? =some (.slice ad x.den.length cd)/\RatV w (.agg #[.bool x.neg,.slice an x.num.length cn,.slice ad x.den.length cd]) x)
 {base T:Nat}(hown:w'.ownsRow base T 3 v (0+n) ([]++news)):∃a c,v=.slice a L.length c/\L.length<=c/\zm w' a L:=by
 rw[ZR,ZaV]at hown;exact zmP hown hn hl (fun j z hj=>by
  obtain⟨an,ad,cn,cd,h1,h2,h3,h4⟩:=hnews j z hj;exact⟨an,ad,cn,cd,h1,h2,h3,h4.below hb⟩)
theorem zb1(q:Rat):zP (zc q)=true:=by
 unfold zP;rw[za0,zH];exact Zk rfl
theorem zox{q:Rat}(h:zbH (zc q)=true):q.den<=4294967296/\q.num.natAbs<=18446744073709551616:=by
 unfold zbH at h;rw[Zu,ZC,ZC]at h;obtain⟨h1,h2⟩:=h
 constructor
 ·by_cases hd:q.den=1
  ·omega
  ·have e:(zc q).den=za q.den:=by simp[zc,hd]
   rw[e]at h2;have:=zaT q.den;exact Zan (Zb this (Zi (Zt Ya h2) Ya))
 ·have e:(zc q).num=za q.num.natAbs:=rfl;rw[e]at h1;have:=zaT q.num.natAbs;exact Zan (Zb this (Zi (Zt Ya h1) Yd))
theorem zdw{L:List zaf}(h:zaR L=true):L=(L.map zT).map zc/\∀q∈L.map zT,q.den<=4294967296/\q.num.natAbs<=18446744073709551616:=by
 unfold zaR at h;rw[Zu]at h;have hb:=zb3 h.2
 refine⟨hb,fun q hq=>zox ?_⟩
 exact Zau.1 h.1 _ (by rw[hb];exact List.mem_map_of_mem hq)
theorem zpW{l:zac}(h:zdN l=true):zbN l:=by
 unfold zdN at h;simp only[Zu,ZC]at h;obtain⟨h1,h2,h3,h4⟩:=h
 refine⟨fun q hq=>?_,by rw[ZE];simp[wq,bq];omega⟩
 rcases Zar.1 hq with hq|hq
 ·exact(zdw h3).2 q hq
 ·exact(zdw h4).2 q hq
theorem zkQ{a b c:Nat}(M:Nat)(hM:2<=M)(h:a+b+2<=c){x y:Nat}(hx:x<=M^a)(hy:y<=M^b):x*y+y<M^c:=by
 have h1:x*y<=M^(a+b):=by rw[Z9];exact ZY hx hy
 have h2:M^b<=M^(a+b):=Zt Ya Ya;have h4:M^(a+b+2)<=M^c:=Zt Ya h;have h5:0<M^(a+b):=Nat.pow_pos Ya;have h6:M^(a+b+2)=M^(a+b)*(M*M):=by rw[Z9,Nat.pow_two]
 have h7:4<=M*M:=ZY hM hM;have h8:M^(a+b)*4<=M^(a+b)*(M*M):=ZQ _ h7;omega
theorem zm7{M C:Nat}(hC:C<=M^3)(k:Nat):C^k<=M^(3*k):=by rw[Nat.pow_mul];exact Nat.pow_le_pow_left hC k
theorem zpc(M C U p q u:Nat)(hM:2<=M)(hC:C<=M^3)(hU:U<=M^u){W n c:Nat}(hW:W<=M^n)(hc:3+(3*q+u)+(n+p*q+p)+2<=c):∀D' B',D'<=W*(M^p)^q->B'<=C^q*U->(C*B')*(D'*M^p)+D'*M^p<M^c:=by
 intro D B hD hB;have h1:B<=M^(3*q+u):=Zi hB (by rw[Z9];exact ZY (zm7 hC q) hU);have h2:C*B<=M^(3+(3*q+u)):=by rw[Z9 M 3];exact ZY hC h1
 have h3:D<=M^(n+p*q):=Zi hD XM;have h4:D*M^p<=M^(n+p*q+p):=by rw[Z9 M (n+p*q)];exact Zl _ h3
 exact zkQ M hM hc h2 h4
theorem zkY{W U:Nat}{n u:Nat}(hW:W<=4294967296^n)(hU:U<=4294967296^u)(hn:n+u<=400):zdz 12 W U:=by
 intro D B hD hB;unfold zo6;obtain⟨p,hp,e⟩:=zqi;rw[e]at hD⊢;have hc:3+(3*12+u)+(n+p*12+p)+2<=524285:=Ya;generalize(524285:Nat)=c at hc⊢;exact zpc 4294967296 9671406556917033397649408 U p 12 u Ya Yd hU hW hc D B hD hB
theorem zn9{W:Nat}{n:Nat}(hW:W<=4294967296^n)(hn:n<=390):zdz 12 W 18446744073709551616:=zkY (u:=2) hW Yd Ya
structure zuq (m:zec) (L:List zaf):Prop where
 back:L=(L.map zT).map zc
 sm:∀l∈m.layers,zbN l
 room:∃D,0<D/\BdL D 18446744073709551616 (L.map zT)/\zdz 12 D 18446744073709551616
 lens:m.layers.length<=8
 xl:L.length<=30
theorem zju{m:zec}{L:List zaf}(h:zhq m L=true):zuq m L:=by
 unfold zhq at h;simp only[Zu,ZC]at h;obtain⟨h1,h2,h3,h4,h5,h6⟩:=h;obtain⟨hb,hs⟩:=zdw h6;obtain⟨W,w1,w2,w3⟩:=BdL.small _ hs;rw[Zv]at w2;exact⟨hb,fun l hl=>zpW (Zau.1 h5 l hl),⟨W,w1,w3,zn9 w2 Ya⟩,h1,h3⟩
def exD:zac:=⟨1,0,1,0,0,0,0,[zc 1,zc (-1)],[zc 0]⟩
def exR:zac:=⟨5,0,0,0,0,0,0,[],[]⟩
def exM:zec:=⟨[2],[exD,exR]⟩
theorem zis:zc 1=⟨false,[1],[]⟩:=by
 have:=zgh 1;rw[show((1:Int):Rat)=1 from rfl]at this;rw[this,show(1:Int).natAbs=1 from rfl,zeb];rfl
theorem zjp:zc (-1)=⟨true,[1],[]⟩:=by
 have:=zgh (-1);rw[show(((-1:Int)):Rat)= -1 from rfl]at this;rw[this,show(-1:Int).natAbs=1 from rfl,zeb];rfl
theorem zqf:zeC exD=true:=by unfold zeC exD;simp[zb1]
theorem zpA:zeC exR=true:=rfl
theorem zqs:zai exD 0=true:=by unfold zai;rw[zqf];decide
theorem zqz:zai exR 1=true:=by unfold zai;rw[zpA];decide
theorem zm9:zL [2] [] exD=([1],0):=by
 unfold zL;rw[show zai exD (([]:List (List Int)).length:Int)=true from zqs]
 decide+kernel
theorem zmU:zL [2] [[1]] exR=([1],0):=by
 unfold zL;rw[show zai exR (([[1]]:List (List Int)).length:Int)=true from zqz]
 decide+kernel
theorem zm3:zbe exM=true:=by
 show(zk [2] && (decide (2<=64) && (zai exD 0 && (zai exR (0+1) && true))))=true
 rw[zqs,show zai exR (0+1)=true from zqz]
 decide
theorem zlw:zI exM=([[1],[1]],0,0):=by
 unfold zI;rw[Zm zm3];show zW [2] [] [exD,exR]=_
 unfold zW;rw[zm9];show zW [2] [[1]] [exR]=_
 unfold zW;rw[zmU];rfl
theorem zqc(p q:Rat)(hp:zbH (zc p)=true)(hq:zbH (zc q)=true):zhq exM ([p,q].map zc)=true:=by
 have s1:zbH (zc 1)=true:=by rw[zis];rfl
 have s2:zbH (zc (-1))=true:=by rw[zjp];rfl
 have s0:zbH (zc 0)=true:=by rw[zcz];rfl
 have hl:zaR ([p,q].map zc)=true:=by simp[zaR,hp,hq,zb1]
 have hw:zaR [zc 1,zc (-1)]=true:=by simp[zaR,s1,s2,zb1]
 have hb:zaR [zc 0]=true:=by simp[zaR,s0,zb1]
 have o1:zdN exD=true:=by
  unfold zdN;rw[show exD.weights=[zc 1,zc (-1)]from rfl,show exD.bias=[zc 0]from rfl,hw,hb];rfl
 have o2:zdN exR=true:=rfl;unfold zhq;rw[hl,show exM.layers=[exD,exR]from rfl,List.all_cons,List.all_cons,o1,o2,show([p,q].map zc).length=2 from rfl]
 decide+kernel
theorem zmF:∀l∈exM.layers,zQ l:=by
 intro l hl;have:l=exD∨l=exR:=by simpa [exM]using hl
 rcases this with rfl|rfl<;>(unfold zQ I64;simp[exD,exR])
theorem zsj:∀l∈exM.layers,zbF l:=by
 intro l hl;have:l=exD∨l=exR:=by simpa [exM]using hl
 have r1:zD (zc 1) 1048576:=by rw[zis];exact⟨Yc,Yc⟩
 have r2:zD (zc (-1)) 1048576:=by rw[zjp];exact⟨Yc,Yc⟩
 have r0:zD (zc 0) 1048576:=by rw[zcz];exact⟨Yc,Yc⟩
 rcases this with rfl|rfl
 ·refine⟨fun x hx=>?_,fun x hx=>?_⟩
  ·have:x=zc 1∨x=zc (-1):=by simpa [exD]using hx
   rcases this with rfl|rfl<;>assumption
  ·have:x=zc 0:=by simpa [exD]using hx
   subst this;exact r0
 ·exact⟨by simp[exR],by simp[exR]⟩
theorem zh3{input:List Int}{S:List (List Int)}{l:zac}(h:(zL input S l).2=0):zk (zh input S)=true:=by
 rcases zaW input S l with⟨k,_,_⟩|⟨k,_⟩
 ·omega
 ·simp only[Zu]at k;unfold zh
  cases hg:S.getLast? with
  | none=>exact k.1.1
  | some z=>exact Zau.1 k.2 z (ZaY hg)
theorem zm5{input:List Int}{S:List (List Int)}{l:zac}{s:List Int}(h:zL input S l=(s,0)):zk s=true:=by
 rcases zaW input S l with⟨k,_,_⟩|⟨_,⟨k,_⟩|⟨_,k2,_,k4⟩⟩
 ·rw[h]at k;simp at k
 ·rw[h]at k;simp at k
 ·rw[h]at k2;simp only at k2;rw[k2];exact k4
theorem zdQ.head{input:List Int}{S T:List (List Int)}{l:zac}{L:List zac}(h:zdQ input S T (l::L)):∃s T',T=s::T'/\zL input S l=(s,0)/\zdQ input (S++[s]) T' L:=TU
theorem zi8{input:List Int}{x:List Rat}:∀{L:List zac} {S T:List (List Int)} {Y:List (List Rat)} {D B k:Nat},TrI input x S Y D B->zdz (k+L.length) D B->zdQ input S T L->(∀l∈L,zbN l)->
  ∃D' B',TrI input x (S++T) (zaN input x S Y L) D' B'/\zdz k D' B'
 | [],S,T,Y,D,B,k,hT,hR,hc,_=>by
  have:T=[]:=Zy hc.1;subst this;exact⟨D,B,by rw[ZaK];exact hT,hR⟩
 | l::L,S,T,Y,D,B,k,hT,hR,hc,hs=>by
  obtain⟨s,T',rfl,ho,hc'⟩:=hc.head;obtain⟨j,j1,j2,j3⟩:=hT.step Jm (hs l Yc) (zh3 Jm);rw[ho]at j3;have hR':zdz (k+L.length) (D*j) (9671406556917033397649408*B):=by
   rw[ZH,<- Zat]at hR;exact hR.next j2
  obtain⟨D',B',h1,h2⟩:=zi8 j3 hR' hc' (fun l hl=>hs l (by simp[hl]))
  refine⟨D',B',?_,h2⟩
  have e:zaN input x S Y (l::L)=zaN input x (S++[s]) (Y++[zgx l (zh input S) (zbj x Y) (zbE x Y l.frm)]) L:=by
   show zaN input x (S++[(zL input S l).1]) _ _=_
   rw[ho]
  rw[e];rw[ZW]at h1;exact h1
theorem zlY{m:zec}{x:List Rat}{D B k:Nat}(hR:zdz (k+m.layers.length) D B)(hxB:BdL D B x)(hD:0<D)(hB:1<=B)(hs:∀l∈m.layers,zbN l):
  ((zcv m x).2≠0/\(zcv m x).1=[])∨(∃T D' B',zdQ m.input [] T m.layers/\zbe m=true/\zI m=(T,0,0)/\(x.length:Int)=zt m.input/\zcv m x=((zdM m x).map (fun y=>y.map zc),0)/\TrI m.input x T (zdM m x) D' B'/\zdz k D' B'):=by
 by_cases he:(zI m).2.2=0
 ·rcases zaA m with⟨_,h⟩|⟨hv,⟨T,hc,hT⟩|⟨h,_⟩⟩
  ·rw[h]at he;simp at he
  ·by_cases hx:(x.length:Int)=zt m.input
   ·have ht:TrI m.input x [] [] D B:=⟨rfl,Yc,hx,hD,hB,hxB,Yc⟩
    obtain⟨D',B',h1,h2⟩:=zi8 ht hR hc hs
    refine .inr ⟨T,D',B',hc,hv,hT,hx,?_,by simpa [zdM]using h1,h2⟩
    unfold zcv;rw[Zm he,Zm hx]
   ·refine .inl ?_
    unfold zcv;rw[Zm he,Zg hx];simp
  ·omega
 ·refine .inl ?_
  unfold zcv;rw[Zg he];exact⟨he,rfl⟩
theorem zoD{m:zec}{x:List Rat}{D B k:Nat}(hR:zdz (k+m.layers.length) D B)(hxB:BdL D B x)(hD:0<D)(hB:1<=B)(hs:∀l∈m.layers,zbN l):∀l∈(zcv m x).1,l.length<=16384:=by
 intro l hl
 rcases zlY hR hxB hD hB hs with⟨_,h⟩|⟨T,D',B',hc,_,_,_,h,hT,_⟩
 ·rw[h]at hl;simp at hl
 ·rw[h]at hl;obtain⟨y,hy,rfl⟩:=ZP.1 hl;obtain⟨j,hj⟩:=ZaX hy;have hjl:=(Zr.1 hj).1;have hjT:j<T.length:=by rw[hT.len];exact hjl
  have hs:=hT.size j _ y (Zh hjT) hj;have hjL:j<m.layers.length:=by rw[<- hc.1];exact hjT
  have ho:=hc.2 j _ _ (Zh hjT) (Zh hjL);have:=(zae (zm5 ho)).2;rw[Zv];omega
theorem zqT(m:zec)(x:List Rat):zsJ m x=if(zI m).2.2=0 then(if(x.length:Int)=zt m.input then((zbj x (zdM m x)).map zc,0)else([],11))else([],(zI m).2.2):=by
 unfold zsJ zcv
 by_cases h:(zI m).2.2=0
 ·rw[Zm h,Zm h]
  by_cases hx:(x.length:Int)=zt m.input
  ·rw[Zm hx,Zm hx,Zm rfl];unfold zbj
   cases hl:(zdM m x).getLast? with
   | none=>rw[List.getLast?_map,hl];rfl
   | some y=>rw[List.getLast?_map,hl];rfl
  ·rw[Zg hx,Zg hx,Zg Yd]
 ·rw[Zg h,Zg h,Zg h]
structure ztR (m:zec) (x:List Rat) (T:List (List Int)) (Y:List (List Rat)):Prop where
 ch:zdQ m.input [] T m.layers
 sh:zI m=(T,0,0)
 tr:zdM m x=Y
theorem zoB{m:zec}(x:List Rat)(h:(zI m).2.2=0):∃T,ztR m x T (zdM m x):=by
 rcases zaA m with⟨_,k⟩|⟨_,⟨T,hc,hT⟩|⟨k,_⟩⟩
 ·rw[k]at h;simp at h
 ·exact⟨T,hc,hT,rfl⟩
 ·omega
theorem ztR.valid{m:zec}{x:List Rat}{T:List (List Int)}{Y:List (List Rat)}(h:ztR m x T Y):zk m.input=true/\T.all zk=true/\m.layers.length<=64:=by
 have hs:=h.sh
 rcases zaA m with⟨_,k⟩|⟨hv,_⟩
 ·rw[k]at hs;simp at hs
 ·unfold zbe at hv;simp only[Zu,ZC]at hv;exact⟨hv.1,h.ch.valid,hv.2.1⟩
theorem zq5{input:List Int}{T:List (List Int)}(h1:zk input=true)(h2:T.all zk=true):zk (zh input T)=true:=by
 unfold zh
 cases hg:T.getLast? with
 | none=>exact h1
 | some z=>exact Zau.1 h2 z (ZaY hg)
theorem zk2:∀{L:List zac} {T:List (List Int)} (l:zac) (s:List Int),T.length=L.length->zhn (L++[l]) (T++[s])=zhn L T+zjt l (zt s)
 | [],[],l,s,_=>by
  show zjt l (zt s)+0=0+_
  omega
 | a::L,t::T,l,s,h=>by
  show zjt a (zt t)+zhn (L++[l]) (T++[s])=(zjt a (zt t)+zhn L T)+_
  rw[zk2 l s VQ];omega
 | [],_::_,_,_,h=>by simp at h
 | _::_,[],_,_,h=>by simp at h
structure zhp (L:List zac) (T:List (List Int)):Prop where
 len:T.length=L.length
 few:L.length<=64
 ok:∀(j:Nat) (l:zac) (s:List Int),L[j]? =some l->T[j]? =some s->0<=zt s/\zt s<=16384/\(l.kind=3->1<=l.kh*l.kw/\l.kh*l.kw<=262144)
theorem zhp.step{L:List zac}{T:List (List Int)}(h:zhp L T){j:Nat}{l:zac}{s:List Int}(hl:L[j]? =some l)(hs:T[j]? =some s):zhn (L.take (j+1)) (T.take (j+1))=zhn (L.take j) (T.take j)+zjt l (zt s):=by
 rw[Zap,Zap,hl,hs];exact zk2 l s (by rw[Z8,Z8,h.len])
theorem zhp.cnt1{L:List zac}{T:List (List Int)}(h:zhp L T){j:Nat}{l:zac}{s:List Int}(hl:L[j]? =some l)(hs:T[j]? =some s):0<=zjt l (zt s)/\zjt l (zt s)<=4294967296:=by
 obtain⟨h1,h2,h3⟩:=h.ok j l s hl hs;unfold Go.Proofs.YtfgmmghmmfmdgaaGreat.zjt
 split
 ·omega
 ·split
  ·rename_i hk
   obtain⟨k1,k2⟩:=h3 hk
   refine⟨Int.mul_nonneg Ya h1,?_⟩
   have:=ZaN (show l.kh*l.kw-1<=262144 from Ya) h2 h1 Ya;omega
  ·omega
theorem zhp.bd{L:List zac}{T:List (List Int)}(h:zhp L T):∀j,j<=L.length->0<=zhn (L.take j) (T.take j)/\zhn (L.take j) (T.take j)<=(j:Int)*4294967296
 | 0,_=>by simp[zhn]
 | j+1,hj=>by
  have hl:L[j]? =some L[j]:=Zh Ya;have hs:T[j]? =some (T[j]'(by rw[h.len];omega)):=Zh _;obtain⟨a1,a2⟩:=h.bd j Ya;obtain⟨b1,b2⟩:=h.cnt1 hl hs;rw[h.step hl hs];omega
theorem zuv{w:World}{a aS:Option Addr}{L:List zac}{T:List (List Int)}{F:Nat->Prop}(c cS:Nat)(h1:zaK w a L)(h2:zbd w F aS T)(hO:zhp L T):
  Calls Tryz.prog 32 #[.slice a L.length c,.slice aS T.length cS] w (fun e w'=>e=.returned (.int .i64 (zhn L T))/\Below w.heap.size w w'):=by
 obtain⟨H1,H2,HO,HTl⟩:=hd4 h1 h2 hO hO.len;have hL6:=hO.few;have hTL:T.length<=64:=by rw[hO.len];exact hL6
 clear h1 h2 hO
 go_enter Tryz.func32,Tryz.ntmps32
 go_wp2
 go_loopw [5,10] (fun v i wr=>∃(j:Nat) (n:Int),j<=L.length/\v=.int .i64 n/\i=.int .i64 (j:Int)/\Hid (n=zhn (L.take j) (T.take j))/\Hid (Below w.heap.size w wr)) (fun _ i _=>L.length-(intOf i).toNat)
 case atStart=>exact⟨0,0,Zs _,rfl,rfl,rfl,Ze _ _⟩
 case round=>
  obtain⟨j,n,hj,rfl,rfl,HN,HB⟩:=hrel;have hnb:=HO.out.bd j hj;rw[<- HN.out]at hnb
  by_cases hlt:j<L.length
  ·obtain⟨bl,ol,l,ha2,hbl,hl,b1,b2,d1,d2,⟨l0,l1,l2,l3,l4,l5,l6,l7,l8⟩,r1,r2⟩:=H1.out.pick hlt;obtain⟨bT,oT,t,aT,ct,haT,tc0,hTi,htc,hIt,hbT,_⟩:=H2.out.pickc (k:=j) Xl;have hc9:=fun o=>HB.out.cell (p:=⟨bl,o,none⟩) hbl
   have l0:=(hc9 _).trans l0;have l1:=(hc9 _).trans l1;have l2:=(hc9 _).trans l2;have l3:=(hc9 _).trans l3;have l4:=(hc9 _).trans l4;have l5:=(hc9 _).trans l5;have l6:=(hc9 _).trans l6;have l7:=(hc9 _).trans l7;have l8:=(hc9 _).trans l8;have hbl2:=Zb hbl HB.out.size;have hstep:=HO.out.step hl hTi;obtain⟨z0,z1,z3⟩:=HO.out.ok j l t hl hTi;have hcb:=HO.out.cnt1 hl hTi;have hal:=blA wr (zbG l b1 d1 b2 d2 44);have HBx9:=hid (b9l wr l b1 d1 b2 d2 44);have HBj:=htr HB hal;have tc0:=(HBj.out.cell (p:=⟨bT,oT+j,none⟩) hbT).trans tc0;have hbT2:=Zb hbT HBj.out.size;obtain⟨HSz,HStep,HN1⟩:=hd3 (fun X (hb:Below w.heap.size w X)=>znR ct (hIt.below hb)) hstep HN.out;have hjT:j<T.length:=Xl;subst ha2 haT;clear hl hTi hIt hal hc9 r1 r2 hstep HN htc
   go_upto_region 5 with fail
   generalize wr.alloc (zbG l b1 d1 b2 d2 44)=wj at *;clear l0 l1 l2 l3 l4 l5 l6 l7 l8;obtain⟨l0,l1,l2,l3,l4,l5,l6,l7,l8,l9⟩:=HBx9.out;generalize hzz:zt t=z at *;have HSzz:=HSz;have HSz':=hid (HSz.out wj HBj.out);clear HSz hzz;have HRel:Hid (∀(d:Int) (X:World),zjt l z=d->Below w.heap.size w X->n+d=zhn (L.take (j+1)) (T.take (j+1))/\Below w.heap.size w X):=fun d X h hb=>by
    rw[HStep.out,h,HN1.out];exact⟨rfl,hb⟩
   by_cases hk5:l.kind=5
   ·have hc:zjt l z=z:=by unfold zjt;rw[Zm hk5]
    rw[hk5]at l0
    go_wp2_with fail
    refine HSz'.out.mono ?_
    rintro e w2 ⟨rfl,rfl⟩;go_wp2;go_roundw
    case rel=>
     obtain⟨g1,g2⟩:=HRel.out z _ hc HBj.out;exact⟨j+1,n+z,hlt,rfl,Yg,g1,g2⟩
    case measure=>simp[intOf];omega
   ·have q5:decide (l.kind=5)=false:=by simp[hk5]
    have q5b:(l.kind==5)=false:=by simp[hk5]
    by_cases hk3:l.kind=3
    ·obtain⟨p,hp⟩:∃p,p=l.kh*l.kw:=⟨_,rfl⟩
     obtain⟨q,hq⟩:∃q,q=(p-1)*z:=⟨_,rfl⟩
     have hc:zjt l z=q:=by unfold zjt;rw[Zg hk5,Zm hk3,hq,hp]
     obtain⟨p1,p2⟩:=z3 hk3;rw[<- hp]at p1 p2;rw[hc]at hcb;have m1:IntKind.i64.wrap (l.kh*l.kw)=p:=by rw[<- hp];exact IntWalk.i64_in _ Ya
     have m2:IntKind.i64.wrap ((p-1)*z)=q:=by rw[<- hq];exact IntWalk.i64_in _ Ya
     rw[hk3]at l0;have HSq:Hid (∀k,Calls Tryz.prog 31 #[.slice aT t.length ct] (wj.drewN k) (fun e w'=>e=.returned (.int .i64 z)/\w'=wj.drewN k)):=fun k=>(HSzz.out _ (below_drewN HBj.out k)).mono fun _ _ h=>⟨h.1,h.2.symm⟩
     have HC:=hid hc;clear hp hq hc q5 q5b z3 hk3 hk5
     go_upto_region 9 with fail
     go_quiet ((go_at_call 31;exact Calls.quiet_of_same (HSq.out _)))
     go_wp2;go_roundw
     case rel=>
      obtain⟨g1,g2⟩:=HRel.out q _ HC.out (below_drewN HBj.out nq);exact⟨j+1,n+q,hlt,rfl,Yg,g1,g2⟩
     case measure=>simp[intOf];omega
    ·have q3:decide (l.kind=3)=false:=by simp[hk3]
     have q3b:(l.kind==3)=false:=by simp[hk3]
     have hc:zjt l z=0:=by unfold zjt;rw[Zg hk5,Zg hk3]
     go_wp2;go_roundw
     case rel=>
      obtain⟨g1,g2⟩:=HRel.out 0 _ hc HBj.out;rw[Int.add_zero]at g1;exact⟨j+1,n,hlt,rfl,Yg,g1,g2⟩
     case measure=>simp[intOf];omega
  ·obtain rfl:j=L.length:=Ya;have HF:Hid (n=zhn L T):=by
    have h:=HN.out;rw[ZM (Za _),ZM VH]at h;exact h
   go_wp2
   refine Zp (v:=.int .i64 n) (by simp[results,Tryz.results32,go_sem]) rfl ⟨by rw[HF.out],HB.out⟩
theorem zhp.of{m:zec}(h:(zI m).2.2=0):zhp m.layers (zI m).1:=by
 rcases zaA m with⟨_,k⟩|⟨hvm,⟨T,hch,hT⟩|⟨k,_⟩⟩
 ·rw[k]at h;simp at h
 ·rw[hT];have hl:=hch.1
  refine⟨hl,?_,fun j l s hj hs=>?_⟩
  ·unfold zbe at hvm;simp only[Zu,ZC]at hvm;exact hvm.2.1
  ·have ho:=hch.2 j s l hs hj;rw[ZaV]at ho;have h0:(zL m.input (T.take j) l).2=0:=Jm;have hv:=zcP h0;rw[ho]at hv;have hz:1<=zt s/\zt s<=16384:=zae hv
   refine⟨Ya,Ya,fun hk=>?_⟩
   cases(zev h0).1 with
   | pool q _ hq ht _ e1 e2 _ _ _ _ _=>
    have hb:=Win.len_bd hq ht;rw[q.one_len]at hb;rw[e1,e2];have h1:q.kh*q.kw<=262144:=Zi (Zad _ hq.c1) hb.2.1;have h2:1<=q.kh*q.kw:=Zak hq.kh1 hq.kw1;rw[<- Zbb];omega
   | dense R hk1=>omega
   | conv q O hk1=>omega
   | keep hk1=>omega
   | add hk1=>omega
 ·omega
def ziY(v:Value):Bool:=match v with | .int .i64 _=>true | .slice _ _ _=>true | .func _ _ _=>true | .nilFunc=>true|_=>false
theorem zbC.zf32{w:World}{g o:Nat}{x:Int}(h:zbC ziY w g):w.cell? ⟨g,o,none⟩≠some (.int .u32 x):=fun e=>by have:=h o _ e;cases this
theorem zbC.zfb{w:World}{g o:Nat}{x:Bool}(h:zbC ziY w g):w.cell? ⟨g,o,none⟩≠some (.bool x):=fun e=>by have:=h o _ e;cases this
theorem zw.setZ{w:World}{g o:Nat}{u:Value}{a:Option Addr}{l:List Nat}(h:zw w a l)(hg:zbC ziY w g):zw (w.setCell ⟨g,o,none⟩ u) a l:=by
 by_cases hl:l=[]
 ·exact IM
 obtain⟨b,off,rfl,hb,hc⟩:=h.open hl;have hp:=ZJ.2 hl;have hf:b≠g:=fun e=>by subst e;exact hg.zf32 (hc 0 hp)
 refine⟨h.lim,h.len,h.row.imp id ?_⟩
 rintro⟨b',off',e,_,hcc⟩;cases e;exact⟨b,off,rfl,Kn,fun j d hj=>(zO YK).trans (hcc j d hj)⟩
theorem zbU.setZ{w:World}{g o:Nat}{u:Value}{p1 p2 p3:Value}{q:Rat}(h:zbU w p1 p2 p3 q)(hg:zbC ziY w g):zbU (w.setCell ⟨g,o,none⟩ u) p1 p2 p3 q:=by
 obtain⟨an,ad,cn,cd,e1,e2,e3,l1,l2,u1,u2⟩:=h.ex;exact⟨an,ad,cn,cd,e1,e2,e3,l1,l2,u1.setZ hg,u2.setZ hg⟩
theorem zlz{w:World}{g o:Nat}{u:Value}{a:Option Addr}{L:List (Nat×Rat)}(h:zag w a L)(hg:zbC ziY w g):zag (w.setCell ⟨g,o,none⟩ u) a L:=by
 refine⟨h.len,?_⟩
 rcases h.row with rfl|⟨b,off,rfl,hb,hc⟩
 ·exact .inl rfl
 ·by_cases hl:L=[]
  ·exact .inl hl
  ·have hp:=ZJ.2 hl;obtain⟨p0,p1,p2,p3,h0,h1,_,_,rfl,h4⟩:=hc 0 L[0] (Zh hp);obtain⟨_,_,_,_,rfl,_⟩:=h4.ex;have hf:b≠g:=fun e=>by subst e;exact hg.zfb h1
   refine .inr ⟨b,off,rfl,Kn,fun j x hj=>?_⟩
   obtain⟨p0,p1,p2,p3,h0,h1,h2,h3,h4⟩:=hc j x hj;exact⟨p0,p1,p2,p3,(zO YK).trans h0,(zO YK).trans h1,(zO YK).trans h2,(zO YK).trans h3,h4.1,h4.2.setZ hg⟩
theorem zaL.setZ{w:World}{g o:Nat}{u:Value}{p0 p1 p2 p3:Value}{f:zl}(h:zaL w p0 p1 p2 p3 f)(hg:zbC ziY w g):zaL (w.setCell ⟨g,o,none⟩ u) p0 p1 p2 p3 f:=by
 obtain⟨⟨a,c,e,hc,ht⟩,hr⟩:=h;exact⟨⟨a,c,e,hc,zlz ht hg⟩,hr.setZ hg⟩
theorem zb5{w:World}{g o:Nat}{u:Value}{a:Option Addr}{L:List zl}(h:zaz w a L)(hg:zbC ziY w g):zaz (w.setCell ⟨g,o,none⟩ u) a L:=by
 refine⟨h.len,?_⟩
 rcases h.row with rfl|⟨b,off,rfl,hb,hc⟩
 ·exact .inl rfl
 ·by_cases hl:L=[]
  ·exact .inl hl
  ·have hp:=ZJ.2 hl;obtain⟨p0,p1,p2,p3,h0,h1,_,_,_,h4⟩:=hc 0 L[0] (Zh hp);obtain⟨_,_,_,_,rfl,_⟩:=h4.ex;have hf:b≠g:=fun e=>by subst e;exact hg.zfb h1
   refine .inr ⟨b,off,rfl,Kn,fun j x hj=>?_⟩
   obtain⟨p0,p1,p2,p3,h0,h1,h2,h3,h4⟩:=hc j x hj;exact⟨p0,p1,p2,p3,(zO YK).trans h0,(zO YK).trans h1,(zO YK).trans h2,(zO YK).trans h3,h4.setZ hg⟩
theorem zee.setZ{w:World}{gG g o:Nat}{u:Value}{a:Option Addr}{L:List zl}(h:zee gG w a L)(hg:zbC ziY w g)(hne:g≠gG):zee gG (w.setCell ⟨g,o,none⟩ u) a L:=
 ⟨zb5 h.at' hg,h.fr.imp id fun hf p e=>(hf p e).set hne⟩
theorem LSt.setZ{gG n b o:Nat}{U:List zl}{w:World}{u:Value}(h:LSt w gG n U)(hf:Fre gG w b)(hb:zbC ziY w b):LSt (w.setCell ⟨b,o,none⟩ u) gG n U:=by
 have hne:gG≠b:=fun e=>hf.ne e.symm
 obtain⟨g0,⟨a,c,h1,ho⟩,g2,g3,fz,lt⟩:=h;have k:∀q,(w.setCell ⟨b,o,none⟩ u).cell? ⟨gG,q,none⟩=w.cell? ⟨gG,q,none⟩:=fun q=>zO (by exact hne)
 have hub:∀g,(Value.slice a U.length c).ownBlock=some g->g≠b:=fun g e e2=>hf.nu Vt
 refine⟨(k 0).trans g0,⟨a,c,(k 1).trans h1,⟨?_,?_⟩⟩,(k 2).trans g2,fun q hq=>(k q).trans (g3 q hq),fun q=>by simp only[Zai];exact fz q,by simpa using lt⟩
 ·obtain⟨xs,hx,he⟩:=ho.ex
  refine⟨xs,⟨hx.1,?_⟩,fun j x hj=>?_⟩
  ·exact Ew
  ·obtain⟨p0,p1,p2,p3,h0,h1',h2,h3,h4⟩:=he j x hj;exact⟨p0,p1,p2,p3,h0,h1',h2,h3,h4.setZ hb⟩
 exact I7
structure zcG (gG:Nat) (w:World) (base:Nat) (v:Value) (Y:List (List zl)):Prop where
 ex:∃xs,w.ownsRow base 28 1 v Y.length xs/\∀(j:Nat) (y:List zl),Y[j]? =some y->∃(a:Option Addr) (c:Nat),xs[j]? =some (.slice a y.length c)/\y.length<=c/\zee gG w a y
 al:zhj isS w v
 fr:∀b,v.ownBlock=some b->Fre gG w b
theorem zcG.lt{gG:Nat}{w:World}{base:Nat}{v:Value}{Y:List (List zl)}(h:zcG gG w base v Y){k:Nat}(hk:v.ownBlock=some k):base<=k/\k<w.heap.size:=Ip
theorem zcG.nil(gG:Nat)(w:World)(base:Nat):zcG gG w base (.slice none 0 0) []:=⟨⟨[],Zaw _ _ _ _,Yc⟩,Vq,fun b e=>VY⟩
theorem zcG.stp{gG n:Nat}{w w':World}{base:Nat}{v:Value}{Y:List (List zl)}{U:List zl}(h:zcG gG w base v Y)(hL:LSt w gG n U)(hs:Stp gG w w'):zcG gG w' base v Y:=by
 refine⟨?_,fun g e o x hx=>?_,fun b e=>(h.fr b e).stp hs⟩
 ·obtain⟨xs,ho,he⟩:=h.ex
  refine⟨xs,⟨ho.1,?_⟩,fun j y hj=>?_⟩
  ·exact ED
  ·obtain⟨a,c,k1,k2,k3⟩:=he j y hj;exact⟨a,c,k1,k2,k3.stp hL hs⟩
 ·rw[(h.fr g e).cell hs]at hx;exact h.al g e o x hx
theorem zcG.setZ{gG g o:Nat}{w:World}{base:Nat}{v:Value}{Y:List (List zl)}{u:Value}(h:zcG gG w base v Y)(hg:zbC ziY w g)(hne:g≠gG)(hb:g<base):zcG gG (w.setCell ⟨g,o,none⟩ u) base v Y:=by
 have hbk:∀b,v.ownBlock=some b->b≠g:=fun b e=>by have:=(h.lt e).1;omega
 refine⟨?_,fun b e q x hx=>?_,fun b e=>(h.fr b e).set hne⟩
 ·obtain⟨xs,ho,he⟩:=h.ex
  refine⟨xs,⟨ho.1,?_⟩,fun j y hj=>?_⟩
  ·exact Es
  ·obtain⟨a,c,k1,k2,k3⟩:=he j y hj;exact⟨a,c,k1,k2,k3.setZ hg hne⟩
 ·rw[zO (by exact hbk b e)]at hx;exact h.al b e q x hx
theorem zjy{w w':World}{a:Option Addr}{L:List zl}{v:Value}(h:zaz w a L)(hg:w.grownBy w' v.ownBlock)(ha:zhj isS w v):zaz w' a L:=by
 have hbs:zhj zco w v:=fun g e o x hx=>by
  have:=ha g e o x hx;unfold isS at this
  split at this
  ·rfl
  ·cases this
 refine⟨h.len,?_⟩
 rcases h.row with rfl|⟨b,off,rfl,hb,hc⟩
 ·exact .inl rfl
 ·by_cases hl:L=[]
  ·exact .inl hl
  ·have hp:=ZJ.2 hl;obtain⟨p0,p1,p2,p3,h0,h1,_,_,_,h4⟩:=hc 0 L[0] (Zh hp);obtain⟨_,_,_,_,rfl,_⟩:=h4.ex;have hne:some b≠v.ownBlock:=fun e=>by have:=ha b e.symm _ _ h1;cases this
   have hcell:∀o,w'.cell? ⟨b,o,none⟩=w.cell? ⟨b,o,none⟩:=fun o=>ZS (hg.block b hb hne)
   refine .inr ⟨b,off,rfl,Zb hb hg.size,fun j x hj=>?_⟩
   obtain⟨p0,p1,p2,p3,h0,h1,h2,h3,h4⟩:=hc j x hj;exact⟨p0,p1,p2,p3,(hcell _).trans h0,(hcell _).trans h1,(hcell _).trans h2,(hcell _).trans h3,zaX.grown h4 hg hbs⟩
theorem zhj.sbs{w:World}{v:Value}(ha:zhj isS w v):zhj zco w v:=fun g e o x hx=>by
 have:=ha g e o x hx;unfold isS at this
 split at this
 ·rfl
 ·cases this
theorem zee.grownS{gG n:Nat}{w w':World}{a:Option Addr}{L U:List zl}{v:Value}(h:zee gG w a L)(hL:LSt w gG n U)(hg:w.grownBy w' v.ownBlock)(hf:∀b,v.ownBlock=some b->Fre gG w b)(ha:zhj isS w v):zee gG w' a L:=by
 obtain⟨e,_⟩:=zdG hL hg hf;exact⟨zjy h.at' hg ha,h.fr.imp id fun hf' p hp=>⟨Zb (hf' p hp).lt hg.size,(hf' p hp).ne,by rw[e];exact(hf' p hp).nu⟩⟩
theorem Fre.grown{gG n b:Nat}{w w':World}{U:List zl}{v:Value}(h:Fre gG w b)(hL:LSt w gG n U)(hg:w.grownBy w' v.ownBlock)(hf:∀b,v.ownBlock=some b->Fre gG w b):Fre gG w' b:=by
 obtain⟨e,_⟩:=zdG hL hg hf;exact⟨Zb h.lt hg.size,h.ne,by rw[e];exact h.nu⟩
theorem zjL{P:Program}{w:World}{ops:Array Oper}{rest:List Oper}{o:Oper}{a:Act}{Q:Exit->Act->World->Prop}(hgd:o.guard=none)(s x:Operand)(t:TypeId)
 (ho:o.op=.call { callee:=.builtin .append,args:=#[s,x],argTypes:=#[t,t] })
 (gG nn base:Nat)(ht:P.underlying t=some (.slice 28))(hinfo:(P.info? 28).map (fun i=>(i.zero,i.size,i.bytes))=some (some (.slice none 0 0),1,24))
 (v:Value)(n:Nat)(Y:List (List zl))(U:List zl)(hn:Y.length=n)(hs:a.eval s=v)(hown:zcG gG w base v Y)(hL:LSt w gG nn U)(y:List zl)(m:Nat)(hm:y.length=m)(aj:Option Addr)(cj:Nat)(hcj:m<=cj)(hy:zee gG w aj y)
 (g:Nat)(hg1:w.cell? ⟨g,0,none⟩=some (.slice aj m cj))
 (hx:a.eval x=.slice (some ⟨g,0,none⟩) 1 1)(hL':n+1<=2000000000000)(hbase:base<=w.heap.size)
 (h:∀b k w',zcG gG w' base (.slice b (n+1) k) (Y++[y])->n+1<=k->w.grownBy w' v.ownBlock->wpList P ops Q rest (a.put o.dst (.slice b (n+1) k)) w'):
  wpList P ops Q (o::rest) a w:=by
 subst hn hm
 refine wpList_plain hgd fun K hK=>?_
 obtain⟨i,hi,hz,hsize,hby⟩:=info_parts hinfo;obtain⟨xs,hox,he⟩:=hown.ex;have hcells:∀(j:Nat) (u:Value),[Value.slice aj y.length cj][j]? =some u->w.cell? (Addr.add ⟨g,0,none⟩ j)=some u:=by
  intro j u hj;rw[Zaq]
  match j,hj with
  | 0,hj=>rw[<- hj];exact hg1
 obtain⟨v',w',hr,r2,r3,r4,r5⟩:=zc5 (P:=P) isS w base t o.type _ i _ 1 24 ht hi hz hsize hby Kk Ya v Y.length xs hox ⟨g,0,none⟩ 1 1
  [.slice aj y.length cj] rfl hcells YO Ya Yf Ya hbase
  hown.al YO K0
 obtain⟨eu,_⟩:=zdG hL r3 hown.fr;have hO:zcG gG w' base v' (Y++[y]):=by
  refine⟨⟨_,by simpa using r2,fun j z hj=>?_⟩,r5,fun b hb=>?_⟩
  ·by_cases hlt:j<Y.length
   ·rw[Zz hlt]at hj;obtain⟨bj,dj,q1,q2,q3⟩:=he j z hj;exact⟨bj,dj,by rw[Zz Vk];exact q1,q2,q3.grownS hL r3 hown.fr hown.al⟩
   ·have hlt':=(Zr.1 hj).1;simp only[ZE,ZH,Zax]at hlt';obtain rfl:j=Y.length:=Ya;have e2:z=y:=JV;subst e2;exact⟨aj,cj,by rw[ZI Vk];simp[hox.1],hcj,hy.grownS hL r3 hown.fr hown.al⟩
  ·rcases r4 with e2|⟨g',e2,hge⟩
   ·have hf:=hown.fr b (e2.symm.trans hb);exact hf.grown hL r3 hown.fr
   ·rw[e2]at hb;cases hb;have hlt:=r2.lt _ e2
    refine⟨hlt.2,by have:=hL.lt;omega,fun e3=>?_⟩
    rw[eu]at e3;have:=hL.ub_ge e3;omega
 obtain⟨b,k,e,hk⟩:=zfC r2;subst e;unfold Oper.wp execOp;simp only[ho,resolve,invoke,builtin,Sem.run_bind,Sem.run_pure,Result.andThen_ok,List.map_toArray,Zbf,List.map_nil,hs,hx,hr];exact hK _ _ (h b k w' hO hk r3)
def zdp.cells(s:zdp):Array Value:=#[.int .i64 s.kd,.int .i64 s.fr,.int .i64 s.ot,.int .i64 s.kh,.int .i64 s.kw,.int .i64 s.st,.int .i64 s.pd,.slice s.a1 s.n1 s.c1,.slice s.a2 s.n2 s.c2,.slice s.aS s.nS s.cS,.slice s.ax s.nx s.cx,.slice s.aT s.nT s.cT,s.fu]
def zdp.fn(s:zdp)(i:Nat):Value:=s.cells.getD i undef
theorem zaY.fn{W:World}{g:Nat}{s:zdp}(h:zqo W g 13 s.fn):zaY W g s:=
 ⟨h.c 0 Ya,h.c 1 Ya,h.c 2 Ya,h.c 3 Ya,h.c 4 Ya,h.c 5 Ya,h.c 6 Ya,h.c 7 Ya,h.c 8 Ya,h.c 9 Ya,h.c 10 Ya,h.c 11 Ya,h.c 12 Ya,h.free,h.lt⟩
def zdp.lay(s:zdp)(l:zac)(b1:Option Addr)(d1:Nat)(b2:Option Addr)(d2:Nat):zdp:=
 { s with kd:=l.kind,fr:=l.frm,ot:=l.out,kh:=l.kh,kw:=l.kw,st:=l.stride,pd:=l.pad,a1:=b1,n1:=l.weights.length,c1:=d1,a2:=b2,n2:=l.bias.length,c2:=d2 }
def zdp.nums(s:zdp)(a:Option Addr)(n c:Nat):zdp:={ s with ax:=a,nx:=n,cx:=c }
def zdp.shap(s:zdp)(a:Option Addr)(n c:Nat):zdp:={ s with aS:=a,nS:=n,cS:=c }
def zdp.trc(s:zdp)(a:Option Addr)(n c:Nat):zdp:={ s with aT:=a,nT:=n,cT:=c }
def zdp.fnc(s:zdp)(v:Value):zdp:={ s with fu:=v }
structure LwB (w1:World) (gG gL n:Nat) (wr:World) (f:Nat->Value) (U:List zl) (tr:Value) (Y:List (List zl)) (ax:Option Addr) (X:List zl):Prop where
 box:zqo wr gL 13 f
 ai:zbC ziY wr gL
 fre:Fre gG wr gL
 un:LSt wr gG n U
 own:zcG gG wr (gL+1) tr Y
 cur:zee gG wr ax X
 bl:Below gG w1 wr
 lt:gG<gL
section
variable {w1:World} {gG gL n:Nat} {wr w':World} {f f':Nat->Value} {U U':List zl} {tr tr':Value} {Y Y':List (List zl)} {ax ax':Option Addr} {X X':List zl}
theorem LwB.set(h:LwB w1 gG gL n wr f U tr Y ax X){i:Nat}(hi:i<13){u:Value}(hu:ziY u=true):LwB w1 gG gL n (wr.setCell ⟨gL,i,none⟩ u) (zti f i u) U tr Y ax X:=
 ⟨h.box.set hi u,h.ai.set i hu,h.fre.set h.fre.ne,h.un.setZ h.fre h.ai,h.own.setZ h.ai h.fre.ne (Zaa _),h.cur.setZ h.ai h.fre.ne,h.bl.setCell (p:=⟨gL,i,none⟩) (Zan h.lt) u,h.lt⟩
theorem LwB.stp(h:LwB w1 gG gL n wr f U tr Y ax X)(hs:Stp gG wr w')(hU:LSt w' gG n U'):LwB w1 gG gL n w' f U' tr Y ax X:=
 ⟨⟨fun i hi=>(h.fre.cell hs).trans (h.box.c i hi),fun i=>(h.fre.frozen hs).trans (h.box.free i),Zb h.box.lt hs.size⟩,fun o x e=>h.ai o x (by rw[h.fre.cell hs]at e;exact e),h.fre.stp hs,hU,h.own.stp h.un hs,h.cur.stp h.un hs,h.bl.trans (hs.below h.un),h.lt⟩
theorem LwB.below(h:LwB w1 gG gL n wr f U tr Y ax X)(hb:Below wr.heap.size wr w'):LwB w1 gG gL n w' f U tr Y ax X:=h.stp (Stp.of hb h.un.lt) (h.un.below hb)
theorem LwB.congr(h:LwB w1 gG gL n wr f U tr Y ax X)(e:∀i,i<13->f i=f' i):LwB w1 gG gL n wr f' U tr Y ax X:=⟨h.box.congr e,h.ai,h.fre,h.un,h.own,h.cur,h.bl,h.lt⟩
theorem LwB.cur'(h:LwB w1 gG gL n wr f U tr Y ax X)(hc:zee gG wr ax' X'):LwB w1 gG gL n wr f U tr Y ax' X':=⟨h.box,h.ai,h.fre,h.un,h.own,hc,h.bl,h.lt⟩
theorem LwB.own'(h:LwB w1 gG gL n wr f U tr Y ax X)(hc:zcG gG wr (gL+1) tr' Y'):LwB w1 gG gL n wr f U tr' Y' ax X:=⟨h.box,h.ai,h.fre,h.un,hc,h.cur,h.bl,h.lt⟩
theorem LwB.app(h:LwB w1 gG gL n wr f U tr Y ax X)(ho:zcG gG w' (gL+1) tr' Y')(hg:wr.grownBy w' tr.ownBlock):LwB w1 gG gL n w' f U tr' Y' ax X:=by
 have hne:some gL≠tr.ownBlock:=fun e=>by have:=(h.own.lt e.symm).1;omega
 have hb:w'.heap[gL]? =wr.heap[gL]? :=hg.block gL h.box.lt hne;have hc:∀o,w'.cell? ⟨gL,o,none⟩=wr.cell? ⟨gL,o,none⟩:=fun o=>ZS hb
 refine⟨⟨fun i hi=>(hc i).trans (h.box.c i hi),fun i=>(ZaT hb).trans (h.box.free i),Zb h.box.lt hg.size⟩,fun o x e=>h.ai o x (by rw[hc]at e;exact e),h.fre.grown h.un hg h.own.fr,h.un.grown hg h.own.fr h.own.al.sbs,ho,h.cur.grownS h.un hg h.own.fr h.own.al,?_,h.lt⟩
 exact h.bl.grown hg (Zan h.un.lt) (fun k hk=>by have:=(h.own.lt hk).1;have:=h.lt;omega)
theorem LwB.lay{s:zdp}(h:LwB w1 gG gL n wr s.fn U tr Y ax X)(l:zac)(b1:Option Addr)(d1:Nat)(b2:Option Addr)(d2:Nat):
  LwB w1 gG gL n (((((((((wr.setCell ⟨gL,0,none⟩ (.int .i64 l.kind)).setCell ⟨gL,1,none⟩ (.int .i64 l.frm)).setCell ⟨gL,2,none⟩ (.int .i64 l.out)).setCell ⟨gL,3,none⟩ (.int .i64 l.kh)).setCell ⟨gL,4,none⟩ (.int .i64 l.kw)).setCell ⟨gL,5,none⟩ (.int .i64 l.stride)).setCell ⟨gL,6,none⟩ (.int .i64 l.pad)).setCell ⟨gL,7,none⟩ (.slice b1 l.weights.length d1)).setCell ⟨gL,8,none⟩ (.slice b2 l.bias.length d2))
   (s.lay l b1 d1 b2 d2).fn U tr Y ax X:=by
 refine(((((((((h.set (i:=0) Ya rfl).set (i:=1) Ya rfl).set (i:=2) Ya rfl).set (i:=3) Ya rfl).set (i:=4) Ya rfl).set (i:=5) Ya rfl).set (i:=6) Ya rfl).set (i:=7) Ya rfl).set (i:=8) Ya rfl).congr ?_
 exact zmf rfl rfl rfl rfl rfl rfl rfl rfl rfl rfl rfl rfl rfl
theorem LwB.nums{s:zdp}(h:LwB w1 gG gL n wr s.fn U tr Y ax X)(a:Option Addr)(k c:Nat):LwB w1 gG gL n (wr.setCell ⟨gL,10,none⟩ (.slice a k c)) (s.nums a k c).fn U tr Y ax X:=
 (h.set (i:=10) Ya rfl).congr (zmf rfl rfl rfl rfl rfl rfl rfl rfl rfl rfl rfl rfl rfl)
theorem LwB.shap{s:zdp}(h:LwB w1 gG gL n wr s.fn U tr Y ax X)(a:Option Addr)(k c:Nat):LwB w1 gG gL n (wr.setCell ⟨gL,9,none⟩ (.slice a k c)) (s.shap a k c).fn U tr Y ax X:=
 (h.set (i:=9) Ya rfl).congr (zmf rfl rfl rfl rfl rfl rfl rfl rfl rfl rfl rfl rfl rfl)
theorem LwB.trc{s:zdp}(h:LwB w1 gG gL n wr s.fn U tr Y ax X)(a:Option Addr)(k c:Nat):LwB w1 gG gL n (wr.setCell ⟨gL,11,none⟩ (.slice a k c)) (s.trc a k c).fn U tr Y ax X:=
 (h.set (i:=11) Ya rfl).congr (zmf rfl rfl rfl rfl rfl rfl rfl rfl rfl rfl rfl rfl rfl)
theorem LwB.fnc{s:zdp}(h:LwB w1 gG gL n wr s.fn U tr Y ax X){v:Value}(hv:ziY v=true):LwB w1 gG gL n (wr.setCell ⟨gL,12,none⟩ v) (s.fnc v).fn U tr Y ax X:=
 (h.set (i:=12) Ya hv).congr (zmf rfl rfl rfl rfl rfl rfl rfl rfl rfl rfl rfl rfl rfl)
end
theorem LSt.make(w1:World)(n:Nat)(T:Nat):LSt (w1.alloc (.cells #[.int .i64 (n:Int),.slice none 0 0,.slice none 0 0] T)) w1.heap.size n []:=by
 refine⟨?_,⟨none,0,?_,zdT.nil _ _⟩,?_,fun o ho=>?_,fun o=>Za2 _ _ _ _,Yc⟩
 ·rw[World.cell?_alloc_at _ _ _ _ rfl];rfl
 ·rw[World.cell?_alloc_at _ _ _ _ rfl];rfl
 ·rw[World.cell?_alloc_at _ _ _ _ rfl];rfl
 ·rw[World.cell?_alloc_at _ _ _ _ rfl];exact Array.getElem?_eq_none Y8
theorem LwB.make{w1 W:World}{gG n:Nat}(hL:LSt W gG n [])(hb:Below gG w1 W)(s:zdp)(hs:ziY s.fu=true)(T:Nat)(X:List zl)(hX:zee gG W s.ax X):LwB w1 gG W.heap.size n (W.alloc (.cells s.cells T)) s.fn [] (.slice none 0 0) [] s.ax X:=by
 have hal:=blA W (.cells s.cells T);have hc:∀o,(W.alloc (.cells s.cells T)).cell? ⟨W.heap.size,o,none⟩=s.cells[o]? :=fun o=>World.cell?_alloc_at _ _ _ _ rfl
 have hfr:=hL.fresh hal (Za _) Yc
 refine⟨⟨zmf (hc 0) (hc 1) (hc 2) (hc 3) (hc 4) (hc 5) (hc 6) (hc 7) (hc 8) (hc 9) (hc 10) (hc 11) (hc 12),fun o=>Za2 _ _ _ _,Yc⟩,zbC.of_heap (Za8 W _) ?_,hfr,hL.below hal,zcG.nil _ _ _,hX.stp hL (Stp.of hal hL.lt),hb.trans (hal.mono (Zan hL.lt)),hL.lt⟩
 intro u hu;simp[zdp.cells]at hu
 rcases hu with rfl|rfl|rfl|rfl|rfl|rfl|rfl|rfl|rfl|rfl|rfl|rfl|rfl<;>first|rfl|exact hs
structure zhS (w:World) (v:Value) (G:zd6):Prop where
 ex:∃aU cU aO cO,v=.agg #[.int .i64 (G.inputs:Int),.slice aU G.units.length cU,.slice aO G.outs.length cO]/\G.units.length<=cU/\G.outs.length<=cO/\zaz w aU G.units/\zaz w aO G.outs
def ziS(w:World)(R:zd6×Int)(e:Ending)(w':World):Prop:=∃v,e=.returned (.tuple #[v,.int .i64 R.2])/\zhS w' v R.1/\Below w.heap.size w w'
theorem zmk(w:World):zhS w (.agg #[.int .i64 0,.slice none 0 0,.slice none 0 0]) zed:=⟨none,0,none,0,rfl,Za _,Za _,zf5.nil _ _,zf5.nil _ _⟩
theorem zgG.setZ{gG g o:Nat}{w:World}{base:Nat}{v:Value}{L:List zl}{u:Value}(h:zgG gG w base v L)(hg:zbC ziY w g)(hne:g≠gG)(hb:g<base):zgG gG (w.setCell ⟨g,o,none⟩ u) base v L:=by
 have hbk:∀b,v.ownBlock=some b->b≠g:=fun b e=>by have:=(h.own.lt e).1;omega
 refine⟨⟨?_,fun b e q x hx=>?_⟩,fun b e=>(h.fr b e).set hne⟩
 ·obtain⟨xs,ho,he⟩:=h.own.ex
  refine⟨xs,⟨ho.1,?_⟩,fun j y hj=>?_⟩
  ·exact Es
  ·obtain⟨p0,p1,p2,p3,h0,h1',h2,h3,h4⟩:=he j y hj;exact⟨p0,p1,p2,p3,h0,h1',h2,h3,h4.setZ hg⟩
 ·rw[zO (by exact hbk b e)]at hx;exact h.own.al b e q x hx
theorem zgG.app{gG n:Nat}{w w':World}{base:Nat}{v v':Value}{L U:List zl}{f:zl}(h:zgG gG w base v L)(hL:LSt w gG n U)(ho:zoQ w' base v' (L++[f]))(hg:w.grownBy w' v.ownBlock)(hn:zi7 w v v'):zgG gG w' base v' (L++[f]):=by
 obtain⟨e,_⟩:=zdG hL hg h.fr
 refine⟨ho,fun b hb=>?_⟩
 rcases hn with e2|⟨g,e2,hge⟩
 ·exact(h.fr b (e2.symm.trans hb)).grown hL hg h.fr
 ·rw[e2]at hb;cases hb
  refine⟨(ho.lt e2).2,by have:=hL.lt;omega,fun e3=>?_⟩
  rw[e]at e3;have:=hL.ub_ge e3;omega
theorem LwB.appX{w1:World}{gG gL n:Nat}{wr w':World}{f:Nat->Value}{U:List zl}{ax ax':Option Addr}{X L X':List zl}{v:Value}(h:LwB w1 gG gL n wr f U (.slice none 0 0) [] ax X)(ho:zgG gG wr (gL+1) v L)(hg:wr.grownBy w' v.ownBlock)(hc:zee gG w' ax' X'):
  LwB w1 gG gL n w' f U (.slice none 0 0) [] ax' X':=by
 have hne:some gL≠v.ownBlock:=fun e=>by have:=(ho.own.lt e.symm).1;omega
 have hb:w'.heap[gL]? =wr.heap[gL]? :=hg.block gL h.box.lt hne;have hcl:∀o,w'.cell? ⟨gL,o,none⟩=wr.cell? ⟨gL,o,none⟩:=fun o=>ZS hb
 exact⟨⟨fun i hi=>(hcl i).trans (h.box.c i hi),fun i=>(ZaT hb).trans (h.box.free i),Zb h.box.lt hg.size⟩,fun o x e=>h.ai o x (by rw[hcl]at e;exact e),h.fre.grown h.un hg ho.fr,h.un.grown hg ho.fr ho.own.al,zcG.nil _ _ _,hc,
  h.bl.grown hg (Zan h.un.lt) (fun k hk=>by have:=(ho.own.lt hk).1;have:=h.lt;omega),h.lt⟩
theorem zcG.one{gG n base:Nat}{w:World}{U:List zl}{a:Option Addr}{y:List zl}{m c:Nat}(hL:LSt w gG n U)(hy:zee gG w a y)(hm:y.length=m)(hc:m<=c)(hb:base<=w.heap.size):
  zcG gG (w.alloc (.cells #[.slice a m c] 28)) base (.slice (some ⟨w.heap.size,0,none⟩) 1 1) [y]:=by
 subst hm;have hal:=blA w (.cells #[.slice a y.length c] 28)
 refine⟨⟨[.slice a y.length c],⟨rfl,.inr ⟨w.heap.size,1,#[.slice a y.length c],rfl,hb,Za8 w _,Za _,Yd,rfl,rfl⟩⟩,fun j z hj=>?_⟩,fun g e=>?_,fun b e=>?_⟩
 ·match j,hj with
  | 0,hj=>
   cases hj;exact⟨a,c,rfl,hc,hy.stp hL (Stp.of hal hL.lt)⟩
 ·cases e;exact zbC.of_heap (Za8 w _) YO
 ·cases e;exact hL.fresh hal (Za _) Yc
theorem zcG.at'{gG:Nat}{w:World}{base:Nat}{a:Option Addr}{n c:Nat}{Y:List (List zl)}(h:zcG gG w base (.slice a n c) Y){j:Nat}{y:List zl}(hj:Y[j]? =some y):
  ∃(bT:Nat) (af:Option Addr) (cf:Nat),a=some ⟨bT,0,none⟩/\bT<w.heap.size/\w.cell? ⟨bT,0+j,none⟩=some (.slice af y.length cf)/\zee gG w af y:=by
 obtain⟨xs,ho,he⟩:=h.ex;obtain⟨af,cf,k1,k2,k3⟩:=he j y hj
 rcases ho.2 with⟨e,hn⟩|⟨g,cap,cur,e,hb,hg,hnc,hcm,hcs,htake⟩
 ·rw[Zy hn]at hj;simp at hj
 ·cases e;have k:=ho.cells (g:=g) rfl _ _ k1;simp only[Zaq]at k;exact⟨g,af,cf,rfl,(ZF.1 hg).1,k,k3⟩
theorem zf5.src{α:Type}{P:World->Value->Value->Value->Value->α->Prop}{p:Value->Bool}(hP:zfh P p){w:World}{a:Option Addr}{L:List α}(h:zf5 P w a L):
  ∃news,zho w a L.length 4 news/\(∀u∈news,p u=true)/\∀(j:Nat) (x:α),L[j]? =some x->∃p0 p1 p2 p3,news[j*4]? =some p0/\news[j*4+1]? =some p1/\news[j*4+2]? =some p2/\news[j*4+3]? =some p3/\P w p0 p1 p2 p3 x:=by
 rcases h.row with rfl|⟨b,off,rfl,hb,hc⟩
 ·exact⟨[],⟨rfl,Yc,fun hm=>by simp at hm⟩,Yc,Yc⟩
 ·have key:∀o,o<L.length*4->∃u,w.cell? ⟨b,off+o,none⟩=some u/\u.oneCell'=true/\p u=true:=by
   intro o ho;have hq:o/4<L.length:=Ya;obtain⟨p0,p1,p2,p3,h0,h1,h2,h3,h4⟩:=hc (o/4) L[o/4] (Zh hq);have hone:=hP.one h4;have hr:o=o/4*4∨o=o/4*4+1∨o=o/4*4+2∨o=o/4*4+3:=Ya
   rcases hr with e|e|e|e
   ·exact⟨p0,by rw[e];exact h0,hone p0 Yc⟩
   ·exact⟨p1,by rw[e];exact h1,hone p1 Yc⟩
   ·exact⟨p2,by rw[e];exact h2,hone p2 Yc⟩
   ·exact⟨p3,by rw[e];exact h3,hone p3 Yc⟩
  have hat:∀(j:Nat) (u:Value),((List.range (L.length*4)).map fun o=>(w.cell? ⟨b,off+o,none⟩).getD undef)[j]? =some u->j<L.length*4/\w.cell? ⟨b,off+j,none⟩=some u:=by
   intro j u hj;have hlt:=(Zr.1 hj).1;simp only[Zv,Zav]at hlt;obtain⟨u',h1,_⟩:=key j hlt;rw[ZN,Zam hlt]at hj;simp only[Option.map_some,h1,Option.getD_some,ZaG]at hj;exact⟨hlt,by rw[h1,hj]⟩
  have hget:∀(o:Nat) (u:Value),o<L.length*4->w.cell? ⟨b,off+o,none⟩=some u->((List.range (L.length*4)).map fun o=>(w.cell? ⟨b,off+o,none⟩).getD undef)[o]? =some u:=by
   intro o u ho hu;rw[ZN,Zam ho];simp[hu]
  refine⟨(List.range (L.length*4)).map fun o=>(w.cell? ⟨b,off+o,none⟩).getD undef,⟨Yc,fun u hu=>?_,fun _=>⟨b,off,rfl,hb,fun j u hj=>(hat j u hj).2⟩⟩,fun u hu=>?_,fun j x hj=>?_⟩
  ·obtain⟨j,hj⟩:=ZaX hu;obtain⟨hlt,hcl⟩:=hat j u hj;obtain⟨u',h1,h2,_⟩:=key j hlt;rw[h1]at hcl;cases hcl;exact h2
  ·obtain⟨j,hj⟩:=ZaX hu;obtain⟨hlt,hcl⟩:=hat j u hj;obtain⟨u',h1,_,h2⟩:=key j hlt;rw[h1]at hcl;cases hcl;exact h2
  ·have hlt:=(Zr.1 hj).1;obtain⟨p0,p1,p2,p3,h0,h1,h2,h3,h4⟩:=hc j x hj;exact⟨p0,p1,p2,p3,hget _ _ Ya h0,hget _ _ Ya h1,hget _ _ Ya h2,hget _ _ Ya h3,h4⟩
theorem zh9{w:World}{gG o:Nat}{u:Value}{a:Option Addr}{L:List zl}(h:zaz w a L)(hg:GBk w gG):zaz (w.setCell ⟨gG,o,none⟩ u) a L:=by
 refine⟨h.len,?_⟩
 rcases h.row with rfl|⟨b,off,rfl,hb,hc⟩
 ·exact .inl rfl
 ·by_cases hl:L=[]
  ·exact .inl hl
  ·have hp:=ZJ.2 hl;obtain⟨p0,p1,p2,p3,h0,h1,_,_,_,h4⟩:=hc 0 L[0] (Zh hp);obtain⟨_,_,_,_,rfl,_⟩:=h4.ex;have hf:b≠gG:=by
    rintro rfl;obtain⟨⟨y,z0⟩,⟨a1,n1,c1,z1⟩,⟨a2,n2,c2,z2⟩,z3⟩:=hg;generalize off+0*4+1=q at h1
    match q,h1 with
    | 0,h1=>rw[z0]at h1;cases h1
    | 1,h1=>rw[z1]at h1;cases h1
    | 2,h1=>rw[z2]at h1;cases h1
    | q+3,h1=>rw[z3 (q+3) Ya]at h1;cases h1
   refine .inr ⟨b,off,rfl,Kn,fun j x hj=>?_⟩
   obtain⟨p0,p1,p2,p3,h0,h1,h2,h3,h4⟩:=hc j x hj;exact⟨p0,p1,p2,p3,(zO YK).trans h0,(zO YK).trans h1,(zO YK).trans h2,(zO YK).trans h3,h4.gset hg⟩
structure LwQ (n:Nat) (input:List Int) (S:List (List Int)) (U:List zl) (Y:List (List zl)) (D B N:Nat):Prop where
 lo:∃(x:List Rat) (YQ:List (List Rat)),x.length=n/\zhs x input S U Y YQ
 hD:0<D
 hB:1<=B
 b0:zcp D B N (zq n)
 bY:∀y∈Y,zcp D B N y
theorem LwQ.start{n N:Nat}{input:List Int}(h:(n:Int)=zt input)(hN:n<=N):LwQ n input [] [] [] 1 1 N:=by
 refine⟨⟨List.replicate n 0,[],Yc,zhs.start VQ⟩,Ya,Ya,fun f hf=>?_,Yc⟩
 obtain⟨v,hv,rfl⟩:=ZP.1 hf;have:=Z5.1 hv;exact BdF.var Ya Ya Ya
theorem LwQ.len{n:Nat}{input:List Int}{S:List (List Int)}{U:List zl}{Y:List (List zl)}{D B N:Nat}(h:LwQ n input S U Y D B N):S.length=Y.length:=by
 obtain⟨x,YQ,_,hl⟩:=h.lo;have:=congrArg List.length hl.ev;rw[Zv]at this;rw[hl.len,<- this]
theorem LwQ.size{n:Nat}{input:List Int}{S:List (List Int)}{U:List zl}{Y:List (List zl)}{D B N:Nat}(h:LwQ n input S U Y D B N){j:Nat}{s:List Int}{y:List zl}(hs:S[j]? =some s)(hy:Y[j]? =some y):(y.length:Int)=zt s:=by
 obtain⟨x,YQ,_,hl⟩:=h.lo;have hq:YQ[j]? =some (y.map (zK (zN x U))):=by rw[<- hl.ev,ZN,hy];rfl
 have:=hl.size j s _ hs hq
 rwa [Zv]at this
theorem LwQ.vars{n:Nat}{input:List Int}{S:List (List Int)}{U:List zl}{Y:List (List zl)}{D B N:Nat}(h:LwQ n input S U Y D B N):((zq n).length:Int)=zt input:=by
 obtain⟨x,YQ,rfl,hl⟩:=h.lo;rw[<- hl.x0];simp[zq]
theorem LwQ.curr{n:Nat}{input:List Int}{S:List (List Int)}{U:List zl}{Y:List (List zl)}{D B N:Nat}(h:LwQ n input S U Y D B N):((zat (zq n) Y).length:Int)=zt (zh input S)/\zcp D B N (zat (zq n) Y):=by
 unfold zat zh;rw[Zah,Zah,h.len]
 cases hy:Y[Y.length-1]? with
 | none=>
  have hs:S[Y.length-1]? =none:=by
   rw[List.getElem?_eq_none_iff]at hy⊢;have:=h.len;omega
  rw[hs];exact⟨h.vars,h.b0⟩
 | some y=>
  have hlt:=(Zr.1 hy).1;have hls:Y.length-1<S.length:=by rw[h.len];exact hlt
  have hs:S[Y.length-1]? =some (S[Y.length-1]'hls):=Zh hls;rw[hs];exact⟨h.size hs hy,h.bY y (Zq hy)⟩
theorem LwQ.frm{n:Nat}{input:List Int}{S:List (List Int)}{U:List zl}{Y:List (List zl)}{D B N:Nat}(h:LwQ n input S U Y D B N)(f:Int):zcp D B N (zaS (zq n) Y f):=by
 unfold zaS
 split
 ·rw[Zd]
  cases hy:Y[f.toNat]? with
  | none=>exact zcp.nil _ _ _
  | some y=>exact h.bY y (Zq hy)
 ·exact h.b0
theorem LwQ.flen{n:Nat}{input:List Int}{S:List (List Int)}{U:List zl}{Y:List (List zl)}{D B N:Nat}(h:LwQ n input S U Y D B N){f:Int}(h1: -1<=f)(h2:f<S.length)(h3:(if 0<=f then S.getD f.toNat []else input)=zh input S):
  (zaS (zq n) Y f).length=(zat (zq n) Y).length/\∃fr1:Nat,f+1=(fr1:Int)/\fr1<Y.length+1/\(zq n::Y)[fr1]? =some (zaS (zq n) Y f):=by
 have hc:=h.curr.1;have hl:=h.len;rw[<- h3]at hc;unfold zaS
 by_cases h0:0<=f
 ·rw[Zm h0]at hc⊢;have hlt2:f.toNat<Y.length:=Ya;have hlt1:f.toNat<S.length:=Ya
  refine⟨?_,f.toNat+1,Ya,Ya,?_⟩
  ·rw[Zd,Zh hlt2];rw[Zd,Zh hlt1]at hc;have:=h.size (Zh hlt1) (Zh hlt2);simp only[Option.getD_some]at hc⊢;omega
  ·rw[Zc,Zd,Zh hlt2];rfl
 ·rw[Zg h0]at hc⊢
  refine⟨?_,0,Ya,Ya,rfl⟩
  have:=h.vars;omega
theorem LwQ.step{n:Nat}{input:List Int}{S:List (List Int)}{U:List zl}{Y:List (List zl)}{D B N:Nat}{l:zac}(h:LwQ n input S U Y D B N)(hl:(zL input S l).2=0)(hs:zbN l)(hv:zk (zh input S)=true)
 (hN:n+(z8 n U l (zh input S) (zat (zq n) Y) (zaS (zq n) Y l.frm)).1.length<=N):
  ∃k,0<k/\k<=WQ/\LwQ n input (S++[(zL input S l).1]) (z8 n U l (zh input S) (zat (zq n) Y) (zaS (zq n) Y l.frm)).1 (Y++[(z8 n U l (zh input S) (zat (zq n) Y) (zaS (zq n) Y l.frm)).2]) (D*k) (9671406556917033397649408*B) N:=by
 obtain⟨hc,hcb⟩:=h.curr;have hsz:=(zae hv).2;obtain⟨k,k1,k2,k3⟩:=znW (nI:=n) (U:=U) (zev hl).1 hc Ya hcb (h.frm l.frm) h.hD h.hB hs hN;have hB:=h.hB
 refine⟨k,k1,k2,?_,Zak h.hD k1,Ya,(h.b0.bump k1).mono Ya (Za _),?_⟩
 ·obtain⟨x,YQ,rfl,hL⟩:=h.lo;exact⟨x,_,rfl,hL.step hl⟩
 ·intro y hy
  rcases Zar.1 hy with hy|hy
  ·exact((h.bY y hy).bump k1).mono Ya (Za _)
  ·rw[List.mem_singleton]at hy;rw[hy];exact k3
theorem zmO{n:Nat}{input:List Int}{T:List (List Int)}{L:List zac}(h:(n:Int)=zt input)(hc:zdQ input [] T L):((z6 n input (zq n) [] [] [] L).1.length:Int)=zhn L T:=by
 have hl:(List.replicate n (0:Rat)).length=n:=Yc;have:=zkb (zhs.start (x:=List.replicate n 0) VQ) hc;rw[hl]at this
 simpa using this
theorem zpK:zdz 12 1 1:=zkY (n:=0) (u:=0) Yd Yd Ya
structure zi1 (gG n:Nat) (W1:World) (U:List zl) (L:List Su) (p:Nat) (dp:List (Nat×Nat)) (x0:Value) (Post:Value->World->Prop) (d:Nat->Bool) (g:Nat->Value) (W:World):Prop where
 cl:∀q∈dp,d q.1=true->d q.2=true
 z0:d 0=true->g 0=x0
 st:(d p=false/\zfe gG n W1 U U 99 L d g W)∨(d p=true/\(∀i,0<i->i<p->d i=true)/\Post (g p) W)
section
variable {gG n:Nat} {W1:World} {U:List zl} {L:List Su} {p:Nat} {dp:List (Nat×Nat)} {x0:Value} {Post:Value->World->Prop} {d:Nat->Bool} {g:Nat->Value} {W W':World}
theorem zi1.start(h:LSt W1 gG n U)(g:Nat->Value):zi1 gG n W1 U L p dp x0 Post (fun _=>false) g W1.drew:=⟨(fun _ _ h=>YP),(fun h=>YP),.inl ⟨rfl,zfe.start h g⟩⟩
theorem zjU(hc:∀q∈dp,d q.1=true->d q.2=true){i:Nat}(hd:∀q∈dp,q.1=i->d q.2=true):∀q∈dp,zdj d i q.1=true->zdj d i q.2=true:=by
 intro q hq h;have hup:d q.2=true->zdj d i q.2=true:=fun h=>by unfold zdj;split<;>first|rfl|exact h
 by_cases e:q.1=i
 ·exact hup (hd q hq e)
 ·rw[zaJ e]at h;exact hup (hc q hq h)
theorem zi1.one(hV:zi1 gG n W1 U L p dp x0 Post d g W){i:Nat}{v:Value}(hi:p≠i)(hdeps:∀q∈dp,q.1=i->d q.2=true)(hx:i=0->v=x0)(hp:d p=false)(h:zfe gG n W1 U U 99 L (zdj d i) (upd g i v) W'):zi1 gG n W1 U L p dp x0 Post (zdj d i) (upd g i v) W':=by
 refine⟨zjU hV.cl hdeps,fun h0=>?_,.inl ⟨by rw[zaJ hi];exact hp,h⟩⟩
 unfold upd
 by_cases e:0=i
 ·rw[Zm e];exact hx e.symm
 ·rw[Zg e];rw[zaJ e]at h0;exact hV.z0 h0
theorem zi1.late(hV:zi1 gG n W1 U L p dp x0 Post d g W)(hp0:p≠0)(hdeps:∀q∈dp,q.1≠0)(hp:d p=true)(ha:∀i,0<i->i<p->d i=true)(hP:Post (g p) W):zi1 gG n W1 U L p dp x0 Post (zdj d 0) (upd g 0 x0) W:=by
 refine⟨zjU hV.cl (fun q hq e=>absurd e (hdeps q hq)),fun _=>by unfold upd;rw[Zm rfl],.inr ⟨by rw[zaJ hp0];exact hp,fun i h1 h2=>JP,?_⟩⟩
 unfold upd;rw[Zg hp0];exact hP
theorem zi1.app(hV:zi1 gG n W1 U L p dp x0 Post d g W){v:Value}(hp0:p≠0)(ha:∀i,0<i->i<p->d i=true)(hdeps:∀q∈dp,q.1≠p)(hP:Post v W'):zi1 gG n W1 U L p dp x0 Post (zdj d p) (upd g p v) W':=by
 refine⟨zjU hV.cl (fun q hq e=>absurd e (hdeps q hq)),fun h0=>?_,.inr ⟨by unfold zdj;rw[Zm rfl],fun i h1 h2=>JP,by unfold upd;rw[Zm rfl];exact hP⟩⟩
 unfold upd;rw[Zg (fun e=>hp0 e.symm)];rw[zaJ (fun e=>hp0 e.symm)]at h0;exact hV.z0 h0
end
theorem zmZ{w:World}{base:Nat}{a:Option Addr}{n c:Nat}{L:List zl}{xs:List Value}(ho:w.ownsRow base 53 4 (.slice a n c) n xs)(hn:L.length=n)(he:∀(j:Nat) (x:zl),L[j]? =some x->∃p0 p1 p2 p3,xs[j*4]? =some p0/\xs[j*4+1]? =some p1/\xs[j*4+2]? =some p2/\xs[j*4+3]? =some p3/\zaL w p0 p1 p2 p3 x)(hl:L.length<=9223372036854775807):zaz w a L:=Oy
theorem zoh{X w':World}{gG n g c:Nat}{U L:List zl}{b:Option Addr}(hL:LSt X gG n U)(hU:U.length<=9223372036854775807)(hb:Below X.heap.size X w')(hO:zaz w' b L)(hc:L.length<=c)(hz:zbC ziY w' g)(hne:g≠gG):
  ∃aU cU,(w'.setCell ⟨gG,2,none⟩ (.slice b L.length c)).cell? ⟨gG,0,none⟩=some (.int .i64 (n:Int))/\(w'.setCell ⟨gG,2,none⟩ (.slice b L.length c)).cell? ⟨gG,1,none⟩=some (.slice aU U.length cU)/\(w'.setCell ⟨gG,2,none⟩ (.slice b L.length c)).cell? ⟨gG,2,none⟩=some (.slice b L.length c)/\
   zhS ((((w'.setCell ⟨gG,2,none⟩ (.slice b L.length c)).setCell ⟨g,0,none⟩ (.int .i64 (n:Int))).setCell ⟨g,1,none⟩ (.slice aU U.length cU)).setCell ⟨g,2,none⟩ (.slice b L.length c)) (.agg #[.int .i64 (n:Int),.slice aU U.length cU,.slice b L.length c]) ⟨n,U,L⟩:=by
 have hL':=hL.below hb;obtain⟨aU,cU,h1,ho⟩:=hL'.g1;have hcU:U.length<=cU:=by
  obtain⟨a',c',e,hc⟩:=ho.form;cases e;exact hc
 have hz2:zbC ziY (w'.setCell ⟨gG,2,none⟩ (.slice b L.length c)) g:=fun o x e=>hz o x (by rw[zO (by exact hne)]at e;exact e)
 have f1:=zh9 (o:=2) (u:=.slice b L.length c) (ho.read hU) hL'.blk;have f2:=zh9 (o:=2) (u:=.slice b L.length c) hO hL'.blk;have hz3:=hz2.set 0 (v:=.int .i64 (n:Int)) rfl;have hz4:=hz3.set 1 (v:=.slice aU U.length cU) rfl
 refine⟨aU,cU,(ZA _ _ _ _ (fun e=>VY)).trans hL'.g0,(ZA _ _ _ _ (fun e=>VY)).trans h1,Z3 _ _ _ hL'.g2,aU,cU,b,c,rfl,hcU,hc,?_,?_⟩
 ·exact zb5 (zb5 (zb5 f1 hz2) hz3) hz4
 ·exact zb5 (zb5 (zb5 f2 hz2) hz3) hz4
structure LwK (w2:World) (S:zdp) (sh:List Int) (nx j gG:Nat):Prop where
 nS:sh.length=S.nS
 sh:zah w2 Any S.aS sh
 nx:nx=S.nx
 cx:S.nx<=S.cx
 nT:S.nT=j+1
 fu:S.fu=zlG gG
theorem zi1.on{gG n:Nat}{W1 W W':World}{U:List zl}{L:List Su}{p i:Nat}{dp:List (Nat×Nat)}{x0 v:Value}{Post:Value->World->Prop}{d:Nat->Bool}{g:Nat->Value}(hV:zi1 gG n W1 U L p dp x0 Post d g W)(hd:∀q∈dp,q.1=i->d q.2=true)(hp:d p=false)(h:zfe gG n W1 U U 99 L (zdj d i) (upd g i v) W')(hi:p≠i:=by decide)(hx:i=0->v=x0:=by first|(intro _;rfl)|(intro e;cases e)):zi1 gG n W1 U L p dp x0 Post (zdj d i) (upd g i v) W':=hV.one hi hd hx hp h
