/-
  Contracts: ModQ, ModS, ModT, ModU, ModV, EvO, PvG, PvH, LwC, LwG, LinJ, LjF, LjG, LjH, LjI, LjK, LjL, LjM.
-/
import Derived.Test.YtfgmmghmmfmdgaaGreatY22
import Derived.Test.YtfgmmghmmfmdgaaGreatY23
import Derived.Test.YtfgmmghmmfmdgaaGreatY24
import Derived.Test.YtfgmmghmmfmdgaaGreatY25
import Derived.Test.YtfgmmghmmfmdgaaGreatY0
set_option linter.all false
set_option maxRecDepth 100000
set_option maxHeartbeats 3200000
namespace Go.Proofs.YtfgmmghmmfmdgaaGreat
open Go.RowKit
open Go.Lib (hid)
theorem On{P:Prop}(h:P:=by
 rcases ho.2 with⟨e,h0⟩|⟨g,cap,cur,e,hb,hg,hnc,hcm,hcs,htake⟩
 ·exact⟨hl,.inl (ZA Ya)⟩
 exact UC
):P:=h
theorem Ov{P:Prop}(h:P:=by have HF:Hid (RR=([],1)):=YN;clear hok;exact Ts):P:=h
theorem Uj{P:Prop}(h:P:=by
 clear hk
 by_cases hE:zE=0
 ·have t1:(zE != 0)=false:=Vw;have t2:(zE==0)=true:=Vw;have t3:decide (¬ zE=0)=false:=KJ
  go_wp2_with fail
  refine HWin.out.mono ?_
  rintro e w2 ⟨⟨aw,cw,rfl⟩,hb2⟩;have HB2:=htr HB1 hb2;have HX2:=hid (HX1.out.below hb2);have hc2:=(hb2.cell (p:=⟨bs,os,none⟩) HCl.out).trans HC0.out;have hl2:bs<w2.heap.size:=Zd HCl.out hb2.size;clear hb2 x0 x1 x2 x3 x4 x5 x6 x7 x8 xlt;obtain⟨x0,x1,x2,x3,x4,x5,x6,x7,x8,xlt⟩:=HX2.out;have f0:=zF x0 xlt;have f2:=zF x2 xlt;have f3:=zF x3 xlt;have f4:=zF x4 xlt;have f7:=zF x7 xlt;have fs:=zF hc2 hl2;have HHE:=hid hE;clear hE;have HF:Hid (RR=znS [s0,zR,zC]):=zd1 (r:=([s0,zR,zC],decide (zE=0))) (Zk HHE.out) HRe.out;have HAl3:Hid (∀W:World,z9 (W.alloc (.cells #[.int .i64 s0,.int .i64 zR,.int .i64 zC] 3)) Any (some ⟨W.heap.size,0,none⟩) [s0,zR,zC]):=fun W=>zep W s0 zR zC _ ⟨s1,s2⟩ ⟨Ya,Ya⟩ ⟨Ya,Ya⟩
  clear HRe;go_wp2
  refine zy Yc Yc ?_
  repeat (go_big_quiet_step (fail))
  refine wpQuiet_nil ?_
  intro _ hw';obtain⟨nq,hw''⟩:=hw';subst hw'';obtain⟨HB3,HX3⟩:=hd2 (HB2.out.trans ((zG w2 nq).mono HB2.out.size)) (HX2.out.below (zG w2 nq));have hc3:=((zG w2 nq).cell (p:=⟨bs,os,none⟩) hl2).trans hc2;clear f0 f2 f3 f4 f7 fs x0 x1 x2 x3 x4 x5 x6 x7 x8 xlt hc2 hl2;generalize ext w2 nq=w8 at *;obtain⟨x0,x1,x2,x3,x4,x5,x6,x7,x8,xlt⟩:=HX3.out
  go_wp2_with fail
  refine(zfj 3 (HAl3.out _)).mono ?_
  rintro e w3 ⟨⟨a5,c5,rfl,hI5,hc5⟩,hb5⟩;obtain⟨HI5,HC5,HB5⟩:=hd3 hI5 hc5 hb5;clear hI5 hc5 hb5;go_wp2
  go_ret2
  rw[HF.out];exact zaW.up (w1:=w8.alloc (.cells #[.int .i64 s0,.int .i64 zR,.int .i64 zC] 3)) ⟨⟨a5,c5,rfl,HI5.out,HC5.out⟩,HB5.out⟩ (HB3.out.alloc HB3.out.size _)
 ·have t1:(zE != 0)=true:=Vc;have t2:(zE==0)=false:=Kz;have t3:decide (¬ zE=0)=true:=KJ;have HF:Hid (RR=([],7)):=zgd (r:=([s0,zR,zC],decide (zE=0))) KJ HRe.out
  go_wp2_with fail
  refine HWin.out.mono ?_
  rintro e w2 ⟨⟨aw,cw,rfl⟩,hb2⟩;have HB2:=htr HB1 hb2;have HX2:=hid (HX1.out.below hb2);clear hb2 x0 x1 x2 x3 x4 x5 x6 x7 x8 xlt hE HRe;go_wp2
  refine zy Yc Yc ?_
  repeat (go_big_quiet_step (fail))
  refine wpQuiet_nil ?_
  intro _ hw';obtain⟨nq,hw''⟩:=hw';subst hw'';have HB3:=hid (HB2.out.trans ((zG w2 nq).mono HB2.out.size));generalize ext w2 nq=w8 at *;go_wp2
  go_ret2
  exact zaJ HF.out HB3.out
):P:=h
theorem Uq{P:Prop}(h:P:=by
 obtain⟨bb,off,s,aj,cj,rfl,hcell,hs,_,hIs,hbb,_⟩:=(HS.out.below HB1.out).pickc hlt;obtain⟨HTk,HMem,HCu,HVs,HIs⟩:=hd5 (zhk hs) (Zt hs) (zlA (input:=input) hs) (zbm cj hIs) hIs;have ql:=hIs.len;clear hs hIs
 cases hv:zm s with
 | false=>
  rw[hv]at HVs;have HF:Hid (RR=([],1)):=Ow;clear hv
  go_wp2_with fail
  refine HVs.out.mono ?_
  rintro e w' ⟨rfl,rfl⟩;go_wp2
  go_ret2
  exact zaJ HF.out HB1.out
 | true=>
  rw[hv]at HVs;have HA2:Hid ((S.take (j+1)).all zm=true):=Ke;clear hv
  go_wp2_with fail
  refine HVs.out.mono ?_
  rintro e w' ⟨rfl,rfl⟩;go_wp2;go_roundw
  case rel=>exact⟨j+1,aj,cj,hlt,Yg,by rw[HCu.out],Kf,HA2.out,XS⟩
  case measure=>simp[intOf];omega
):P:=h
theorem U9{P:Prop}(h:P:=by have HF:Hid (RR=znS (zk input S)):=zd1 (r:=(zk input S,zbY (if 0<=l.frm then S.getD l.frm.toNat []else input) (zk input S))) JG HRe.out;rw[hs]at HIt;clear hs hcs0;go_wp2_with fail;refine HIt.out.mono ?_;rintro e w9 ⟨rfl,hb9⟩;have HB9:=htr HB1 hb9;have HA9:=hid (HA.out.below hb9);clear hb9 x0 x1 x2 x3 x4 x5 x6 x7 x8;go_wp2_with fail;refine(zfj c HA9.out).mono ?_;rintro e w3 ⟨⟨a5,c5,rfl,hI5,hc5⟩,hb5⟩;obtain⟨HI5,HC5,HB5⟩:=hd3 hI5 hc5 hb5;clear hI5 hc5 hb5;go_wp2;go_ret2;rw[HF.out];exact zaW.up (w1:=w9) ⟨⟨a5,c5,rfl,HI5.out,HC5.out⟩,HB5.out⟩ HB9.out):P:=h
theorem US{P:Prop}(h:P:=by have HF:Hid (RR=([],1)):=Xy;rw[hvi]at HVi2;clear hvi;go_wp2_with fail;refine HVi2.out.mono ?_;rintro e w' ⟨rfl,rfl⟩;go_wp2;go_ret2;exact zaJ HF.out HB0.out):P:=h
theorem UU{P:Prop}(h:P:=by have HF:Hid (RR=([],7)):=zgd (r:=(zk input S,zbY (if 0<=l.frm then S.getD l.frm.toNat []else input) (zk input S))) JA HRe.out;rw[hs]at HIt;clear hs hcs0;go_wp2_with fail;refine HIt.out.mono ?_;rintro e w' ⟨rfl,hb9⟩;have HB9:=htr HB1 hb9;clear hb9 x0 x1 x2 x3 x4 x5 x6 x7 x8;go_wp2;go_ret2;exact zaJ HF.out HB9.out):P:=h
theorem Tg{P:Prop}(h:P:=by
 have q3:decide (l.kind=3)=false:=by simp[hk3]
 have q3b:(l.kind==3)=false:=by simp[hk3]
 have hc:zhl l z=0:=JT;go_wp2;go_roundw
 case rel=>
  obtain⟨g1,g2⟩:=HRel.out 0 _ hc HBj.out;rw[Int.add_zero]at g1;exact⟨j+1,n,hlt,rfl,Yg,g1,g2⟩
 case measure=>simp[intOf];omega
):P:=h
theorem Ti{P:Prop}(h:P:=by
 have hc:zhl l z=z:=by unfold zhl;rw[Zq hk5]
 rw[hk5]at l0
 go_wp2_with fail
 refine HSz'.out.mono ?_
 rintro e w2 ⟨rfl,rfl⟩;go_wp2;go_roundw
 case rel=>
  obtain⟨g1,g2⟩:=HRel.out z _ hc HBj.out;exact⟨j+1,n+z,hlt,rfl,Yg,g1,g2⟩
 case measure=>simp[intOf];omega
):P:=h
theorem Ts{P:Prop}(h:P:=by go_wp2;go_ret2;exact zaJ HF.out HB1.out):P:=h
theorem Tu{P:Prop}(h:P:=by
 unfold zk
 cases hg:S.getLast? with
 | none=>exact HVI.out
 | some s=>exact Zap.1 HAl.out s (Za7 hg)
):P:=h
theorem TR{P:Prop}(h:P:=by have h:=HRd.out;rw[HVI.out,HOK.out,HAl.out,Z0,Z0,Zq rfl]at h;exact h):P:=h
theorem TT{P:Prop}(h:P:=by
 go_wp2;go_roundw
 case rel=>
  obtain⟨g1,g2⟩:=HRel.out q _ HC.out (below_drewN HBj.out nq);exact⟨j+1,n+q,hlt,rfl,Yg,g1,g2⟩
 case measure=>simp[intOf];omega
):P:=h
theorem TW{P:Prop}(h:P:=by
 refine⟨zgo hV.cl (fun q hq e=>absurd e (hdeps q hq)),fun h0=>?_,.inr ⟨JB,fun i h1 h2=>Xg,Vx⟩⟩
 unfold upd;rw[Zh (fun e=>hp0 e.symm)];rw[zas (fun e=>hp0 e.symm)]at h0;exact hV.z0 h0
):P:=h
theorem Em{P:Prop}(h:P:=by
 rcases ho.2 with k|⟨b,cap,cur,rfl,k1,k2,k3⟩
 ·exact .inl k
 ·exact .inr ⟨b,cap,cur,rfl,k1,(Zby _ _ _ _ (show b≠g from hbk b rfl)).trans k2,k3⟩
):P:=h
theorem EL{P:Prop}(h:P:=by
 unfold upd
 by_cases e:0=i
 ·rw[Zq e];exact hx e.symm
 ·rw[Zh e];rw[zas e]at h0;exact hV.z0 h0
):P:=h
theorem EU{P:Prop}(h:P:=by have h:=HN.out;rw[ZQ (Za _),ZQ Xz]at h;exact h):P:=h
theorem zoA{w:World}{v:Value}{l:zae}(hv:zcG w v l)(hr:zO l)(hle:zbC l)(i:Int)(hi:0<=i)(hi2:i<=1000000):
  Calls Tryz.prog 94 #[v,.int .i64 i] w fun e w'=>e=.returned (.bool (zag l i))/\Below w.heap.size w w':=by
 have hkind:l.kind=1∨l.kind=2∨l.kind=3∨l.kind=4∨l.kind=5∨l.kind=6∨l.kind=7∨¬ (1<=l.kind/\l.kind<=7):=Ya
 rcases hkind with hk|hk|hk|hk|hk|hk|hk|hk
 ·exact zm7 hv hr hle i hi hi2 hk
 ·exact znw hv hr hle i hi hi2 hk
 ·exact zm9 hv hr hle i hi hi2 hk
 ·exact zmR hv hr hle i hi hi2 hk
 ·exact zmi hv hr hle i hi hi2 hk
 ·exact zmI hv hr hle i hi hi2 hk
 ·exact zmz hv hr hle i hi hi2 hk
 ·exact zmk hv hr hle i hi hi2 hk
theorem zj5{w:World}{m:zgt}{a1 a2:Option Addr}(c1 c2:Nat)(h1:z9 w Any a1 m.input)(h2:zaO w a2 m.layers)(hr:∀l∈m.layers,zO l)(hs:∀l∈m.layers,zbC l):
  Calls Tryz.prog 61 #[.agg #[.slice a1 m.input.length c1,.slice a2 m.layers.length c2]] w fun e w'=>e=.returned (.bool (zbl m))/\Below w.heap.size w w':=by
 have q1:=h1.len;have q2:=h2.len;obtain⟨H2,HRg,HSh⟩:=hd3 h2 hr hs;have hbA:=blA w (.cells #[.slice a1 m.input.length c1,.slice a2 m.layers.length c2] 25);have HV:=hid (zbm c1 (h1.below hbA));generalize hR:zbl m=R;have HR:=hid hR;unfold zbl at hR;clear h1 h2 hr hs
 cases e1:zm m.input with
 | false=>
  rw[e1]at HV hR;have HF:Hid (R=false):=hR.symm;clear hR e1
  go_enter Tryz.func61,Tryz.ntmps61
  go_wp2_with fail
  refine HV.out.mono ?_
  rintro e w' ⟨rfl,rfl⟩;go_wp2;go_ret;exact I4
 | true=>
  rw[e1]at HV hR;clear e1
  by_cases e2:m.layers.length<=64
  ·rw[Zk e2]at hR;have HL:Hid (zak (m.layers.drop 0) ((0:Nat):Int)=R):=hR;clear hR
   go_enter Tryz.func61,Tryz.ntmps61
   go_wp2_with fail
   refine HV.out.mono ?_
   rintro e w' ⟨rfl,rfl⟩;have hx:=za1.alloc w (.slice a1 m.input.length c1) (.slice a2 m.layers.length c2) 25;have HB:=hid hbA;generalize w.alloc (.cells #[.slice a1 m.input.length c1,.slice a2 m.layers.length c2] 25)=W at *;have HX:=hid hx;obtain⟨x0,x1,xf,xlt⟩:=hx;clear hbA;go_wp2;clear x0 x1 xf xlt
   go_loopw [3] (fun i wr=>∃j:Nat,j<=m.layers.length/\i=.int .i64 (j:Int)/\Hid (zak (m.layers.drop j) (j:Int)=R)/\Hid (Below W.heap.size W wr)) (fun i _=>m.layers.length-(intOf i).toNat)
   case atStart=>exact⟨0,Zs _,rfl,HL.out,Zg _ _⟩
   case round=>
    obtain⟨j,hj,rfl,HS,HW⟩:=hrel;obtain⟨x0,x1,xf,xlt⟩:=HX.out.below HW.out
    by_cases hlt:j<m.layers.length
    ·obtain⟨bl,ol,l,rfl,hbl,hl,b1,b2,d1,d2,⟨l0,l1,l2,l3,l4,l5,l6,l7,l8⟩,r1,r2⟩:=(H2.out.below (HB.out.trans (HW.out.mono HB.out.size))).pick hlt;have hmem:=Zt hl;have hdrop:m.layers.drop j=l::m.layers.drop (j+1):=UP;have HStep:Hid ((zag l (j:Int) && zak (m.layers.drop (j+1)) ((j+1:Nat):Int))=R):=by
      have:=HS.out;rw[hdrop]at this;exact this
     have HC:=hid (zoA (w:=wr) (v:=.agg #[.int .i64 l.kind,.int .i64 l.frm,.int .i64 l.out,.int .i64 l.kh,.int .i64 l.kw,.int .i64 l.stride,.int .i64 l.pad,.slice b1 l.weights.length d1,.slice b2 l.bias.length d2]) ⟨b1,b2,d1,d2,rfl,r1,r2⟩ (HRg.out l hmem) (HSh.out l hmem) (j:Int) Ya Ya);have p1:=r1.len;have p2:=r2.len;clear hdrop hl hmem r1 r2 HS
     go_wp2_with fail
     refine HC.out.mono ?_
     rintro e w2 ⟨rfl,hb2⟩;have HW2:=htr HW hb2;clear hb2 x0 x1 xf xlt l0 l1 l2 l3 l4 l5 l6 l7 l8 HC
     cases hc:zag l (j:Int)with
     | false=>
      have HF:Hid (R=false):=by unfold Hid;rw[<- HStep.out,hc];rfl
      clear hc;go_wp2;go_ret;exact⟨zj HF.out.symm,HB.out.trans (HW2.out.mono HB.out.size)⟩
     | true=>
      have HS2:Hid (zak (m.layers.drop (j+1)) ((j+1:Nat):Int)=R):=by have:=HStep.out;rw[hc]at this;exact this
      clear hc;go_wp2;go_roundw
      case rel=>exact⟨j+1,hlt,Yg,HS2.out,HW2.out⟩
      case measure=>simp[intOf];omega
    ·obtain rfl:j=m.layers.length:=Ya;have HE:Hid (R=true):=Ka;go_wp2;go_ret;exact⟨zj HE.out.symm,HB.out.trans (HW.out.mono HB.out.size)⟩
  ·rw[Zo e2]at hR;have HF:Hid (R=false):=by unfold Hid;rw[<- hR];rfl
   clear hR
   go_enter Tryz.func61,Tryz.ntmps61
   go_wp2_with fail
   refine HV.out.mono ?_
   rintro e w' ⟨rfl,rfl⟩;go_wp2;go_ret;exact I4
theorem zf1{w:World}{u:Value}{l:zae}(hu:zcG w u l)(hr:zO l)(hle:zbC l)(n:Nat)(hn:n<=1000):
  Calls Tryz.prog 95 #[u,.int .i64 (n:Int)] w fun e w'=>e=.returned (.bool (decide (n+1<=64) && zag l n))/\Below w.heap.size w w':=by
 obtain⟨b1,b2,d1,d2,rfl,r1,r2⟩:=hu.ex;have q3:=r1.len;have q4:=r2.len;obtain⟨R1,R2,HRg,HLe⟩:=hd4 r1 r2 hr hle;generalize hR:(decide (n+1<=64) && zag l n)=RR;have HR:=hid hR;clear hu r1 r2 hr hle hR
 go_enter Tryz.func95,Tryz.ntmps95
 go_upto_region 1 with fail
 have hb0:=blA w (zbu l b1 d1 b2 d2 44);have hx:=b9l w l b1 d1 b2 d2 44;generalize w.alloc (zbu l b1 d1 b2 d2 44)=W0 at *;obtain⟨HB0,HX0⟩:=hd2 hb0 hx;clear hb0 hx
 go_upto_region 2 with fail
 have hbW:=blA W0 (.cells #[.int .i64 1] 3);have h1:z9 (W0.alloc (.cells #[.int .i64 1] 3)) Any (some ⟨W0.heap.size,0,none⟩) [1]:=zeK ⟨Ya,Ya⟩ (by rw[World.cell?_alloc_at _ _ _ _ rfl];rfl) Yd;have hmk:MkL (W0.alloc (.cells #[.int .i64 1] 3)) ((W0.alloc (.cells #[.int .i64 1] 3)).alloc (.cells #[.slice (some ⟨W0.heap.size,0,none⟩) 1 1,.slice none 0 0] 25)) (W0.heap.size+1) 25 (.slice (some ⟨W0.heap.size,0,none⟩) 1 1) (.slice none 0 0) (zbK 0):=by
  have e:W0.heap.size+1=(W0.alloc (.cells #[.int .i64 1] 3)).heap.size:=Yd;rw[e]
  refine⟨?_,Zar _ _ _ _,VE,Za _,(Zg _ _).alloc (Za _) _⟩
  show(Array.push _ _)[_]? =_
  exact Ij
 have HW0:Hid ((W0.alloc (.cells #[.int .i64 1] 3)).heap.size=W0.heap.size+1):=by unfold Hid;simp
 have HMk:=hid hmk;have HB1:=htr HB0 hbW;obtain⟨HX,H1⟩:=hd2 (HX0.out.below hbW) h1;generalize(W0.alloc (.cells #[.int .i64 1] 3)).alloc (.cells #[.slice (some ⟨W0.heap.size,0,none⟩) 1 1,.slice none 0 0] 25)=W1 at *;generalize W0.alloc (.cells #[.int .i64 1] 3)=W at *;clear hbW h1 hmk;go_wp2
 go_loopw [6] (fun i wr=>∃(j:Nat) (v:Value),j<=n/\i=.int .i64 (j:Int)/\Hid (MkL W wr (W0.heap.size+1) 25 (.slice (some ⟨W0.heap.size,0,none⟩) 1 1) v (zbK j))) (fun i _=>n-(intOf i).toNat)
 case atStart=>exact⟨0,_,Zs _,rfl,HMk.out⟩
 case round=>
  obtain⟨j,v,hj,rfl,HM⟩:=hrel
  by_cases hlt:j<n
  ·have k1:=HM.out.c1;have hj2:j<1000:=Ya
   go_wp2_with (at_builtin;refine zZ rfl (.tmp 15) (.tmp 17) 23 23 rfl W.heap.size 44 (.agg #[.int .i64 0,.int .i64 0,.int .i64 0,.int .i64 0,.int .i64 0,.int .i64 0,.int .i64 0,.slice none 0 0,.slice none 0 0]) 9 104 Tryz.underlying23 Tryz.underlying23 Tryz.infoLay rfl Ya v j (zbK j).flatten rfl Yq (some ⟨wr.heap.size,0,none⟩) 1 1 (zec zbH none none 0 0) rfl (zcN wr (zec zbH none none 0 0) _ rfl (zfW _ _ _ _ _)) Ya Yh X8 ?_;intro v' w' hown hg hn2;obtain⟨av,cv,rfl⟩:=zcW hown;have k3:=(HM.out.mid (v':=.slice av (j+1) cv) (c:=zec zbH none none 0 0) hg).2.1;have k4:=(HM.out.mid (v':=.slice av (j+1) cv) (c:=zec zbH none none 0 0) hg).2.2;have HOwn:=hid hown;have HG:=hid hg;have HN2:=hid hn2;clear hown hg hn2)
   have hst:=HM.out.step (c:=zec zbH none none 0 0) XD HG.out HN2.out;rw[zgk]at hst;have HSt:=hid hst;clear hst k1 k3 k4;go_roundw
   case rel=>exact⟨j+1,_,hlt,Yg,HSt.out⟩
   case measure=>simp[intOf];omega
  ·obtain rfl:j=n:=Ya;obtain⟨a0,c0,rfl⟩:=zcW HM.out.own;rw[zba]at HM;have HXw:=hid (HX.out.below HM.out.be);obtain⟨x0,x1,x2,x3,x4,x5,x6,x7,x8,xlt⟩:=HXw.out;have k1:=HM.out.c1;clear hlt HMk
   go_wp2_with (at_builtin;refine zZ rfl (.tmp 21) (.tmp 23) 23 23 rfl W.heap.size 44 (.agg #[.int .i64 0,.int .i64 0,.int .i64 0,.int .i64 0,.int .i64 0,.int .i64 0,.int .i64 0,.slice none 0 0,.slice none 0 0]) 9 104 Tryz.underlying23 Tryz.underlying23 Tryz.infoLay rfl Ya (.slice a0 j c0) j (zbK j).flatten rfl Xi (some ⟨wr.heap.size,0,none⟩) 1 1 (zec l b1 b2 d1 d2) rfl (zcN wr (zec l b1 b2 d1 d2) _ rfl (zfW _ _ _ _ _)) Ya Yh X8 ?_;intro v' w' hown hg hn2;obtain⟨av,cv,rfl⟩:=zcW hown;have k3:=(HM.out.mid (v':=.slice av (j+1) cv) (c:=zec l b1 b2 d1 d2) hg).2.1;have k4:=(HM.out.mid (v':=.slice av (j+1) cv) (c:=zec l b1 b2 d1 d2) hg).2.2;have k5:w'.cell? ⟨W0.heap.size+1,0,none⟩=some (.slice (some ⟨W0.heap.size,0,none⟩) 1 1):=(by have hbx:=(HM.out.mid (v':=.slice av (j+1) cv) (c:=zec l b1 b2 d1 d2) hg).1;simp[World.cell?,hbx]);have HOwn:=hid hown;have HG:=hid hg;have HN2:=hid hn2;clear hown hg hn2)
   have hst:=HM.out.step (c:=zec l b1 b2 d1 d2) XD HG.out HN2.out;have hbe:=HB1.out.trans (hst.be.mono HB1.out.size);obtain⟨hrow,h9⟩:=zhm (n:=j) (l:=l) (d1:=d1) (d2:=d2) (R1.out.below hbe) (R2.out.below hbe);have hown2:=hst.own;rw[show(zbK j++[zec l b1 b2 d1 d2]).length=j+1 from Xj]at hown2;have hLL:(List.replicate j zbH++[l]).length=j+1:=Yd;obtain⟨a9,c9,hv9,hlays⟩:=zkf (L:=List.replicate j zbH++[l]) hown2 hLL.symm Ya Xj hrow h9;have hav:av=a9:=by injection hv9
   rw[<- hav]at hlays;have HLays:=hid hlays;have HVm:=hid (zj5 (m:=⟨[1],List.replicate j zbH++[l]⟩) 1 cv (H1.out.below hst.be) HLays.out (by
     intro x hx
     rcases Zay.1 hx with h|h
     ·rw[Za4 h];unfold zO zbH I64;simp
     ·simp at h;subst h;exact HRg.out) (by
     exact Eu))
   rw[zfx,show zm [1]=true from Yb,Z0,HR.out]at HVm;simp only[hLL]at HVm;have HBe:=hid hbe;clear hst hbe hrow h9 hown2 hLL hv9 hlays hav k1 k3 k4 k5 x0 x1 x2 x3 x4 x5 x6 x7 x8 xlt HOwn HG HN2;generalize w'.setCell ⟨W0.heap.size+1,1,none⟩ (.slice av (j+1) cv)=w2 at *
   refine HVm.out.mono ?_
   rintro e w3 ⟨rfl,hb3⟩;have HB3:=htr HBe hb3;clear hb3 HVm;go_wp2;go_ret;exact⟨rfl,HB3.out⟩
theorem zd1{r:List Int×Bool}(h:r.2=true){R:List Int×Int}(hR:(if r.2 && zm r.1 then(r.1,0)else([],7))=R):R=znS r.1:=by
 rw[<- hR,h,Z0];rfl
theorem zgd{r:List Int×Bool}(h:r.2=false){R:List Int×Int}(hR:(if r.2 && zm r.1 then(r.1,0)else([],7))=R):R=([],7):=by
 rw[<- hR,h,Bool.false_and];rfl
theorem zlA{input s:List Int}{S:List (List Int)}{j:Nat}(h:S[j]? =some s):zk input (S.take (j+1))=s:=by
 have hlt:=(Zu.1 h).1;exact zhd (k:=j) Y0 (by rw[List.getElem?_take,Zq Ya];exact h)
theorem zaW.up{w w1 w':World}{p:List Int×Int}{e:Ending}(h:zaW w1 p e w')(hb:Below w.heap.size w w1):zaW w p e w':=
 let ⟨⟨a,c,h1,h2,h3⟩,h4⟩:=h;⟨⟨a,c,h1,h2.mono (fun _ _ hx=>Zl hb.size hx),h3⟩,hb.trans (h4.mono hb.size)⟩
theorem zgc(w:World)(x:Int)(T:Nat)(hx:I64 x):z9 (w.alloc (.cells #[.int .i64 x] T)) Any (some ⟨w.heap.size,0,none⟩) [x]:=zeK hx (by rw[World.cell?_alloc_at _ _ _ _ rfl];rfl) Yd
theorem zp6{w:World}{u:Value}{input:List Int}{S:List (List Int)}{l:zae}{ai ash:Option Addr}(ci cs:Nat)(hi:z9 w Any ai input)(hS:za8 w Any ash S)(hu:zcG w u l)(hr:zO l)(hle:zbC l)(hn:S.length<=1000)(hk:l.kind=1∨l.kind=5∨l.kind=6):
  Calls Tryz.prog 62 #[.slice ai input.length ci,.slice ash S.length cs,u] w (zaW w (zY input S l)):=by
 obtain⟨b1,b2,d1,d2,rfl,r1,r2⟩:=hu.ex;have q1:=hi.len;have q2:=hS.len;have q3:=r1.len;have q4:=r2.len;obtain⟨HI,HS,HU,HRg,HLe,HN⟩:=hd6 hi hS hu hr hle hn;obtain⟨HKD,HVi⟩:=hd2 hk (fun W (hb:Below w.heap.size w W)=>zbm ci (hi.below hb));generalize hR:zY input S l=RR;have HR:=hid hR;unfold zY at hR;have HRd:=hid hR;clear hi hS hu r1 r2 hr hle hR hk
 go_enter Tryz.func62,Tryz.ntmps62
 go_upto_region 1 with fail
 have hb0:=blA w (zbu l b1 d1 b2 d2 44);have hx:=b9l w l b1 d1 b2 d2 44;generalize w.alloc (zbu l b1 d1 b2 d2 44)=W at *;obtain⟨HB0,HX,HVi2⟩:=hd3 hb0 hx (HVi.out W hb0);clear hb0 hx HVi;obtain⟨x0,x1,x2,x3,x4,x5,x6,x7,x8,xlt⟩:=HX.out
 cases hvi:zm input with
 | false=>
  exact US
 | true=>
  rw[hvi]at HVi2;have HVI:=hid hvi;clear hvi
  go_wp2_with fail
  refine HVi2.out.mono ?_
  rintro e w' ⟨rfl,rfl⟩
  go_wp2_with fail
  refine(zf1 (HU.out.below HB0.out) HRg.out HLe.out S.length HN.out).mono ?_
  rintro e w1 ⟨rfl,hb1⟩;have HB1:=htr HB0 hb1;have HX1:=hid (HX.out.below hb1);clear hb1 x0 x1 x2 x3 x4 x5 x6 x7 x8 xlt HVi2
  cases hok:(decide (S.length+1<=64) && zag l S.length)with
  | false=>
   exact Ov
  | true=>
   have HOK:=hid hok;clear hok;go_wp2
   go_loopw [8,9] (fun u i wr=>∃(j:Nat) (a:Option Addr) (c:Nat),j<=S.length/\i=.int .i64 (j:Int)/\u=.slice a (zk input (S.take j)).length c/\Hid (z9 w1 Any a (zk input (S.take j)))/\Hid ((S.take j).all zm=true)/\Hid (w1=wr)) (fun _ i _=>S.length-(intOf i).toNat)
   case atStart=>exact⟨0,ai,ci,Zs _,rfl,rfl,HI.out.below HB1.out,rfl,rfl⟩
   case round=>
    obtain⟨j,a,c,hj,rfl,rfl,HA,HV,HW⟩:=hrel;have ew:=HW.out;clear HW;subst ew
    by_cases hlt:j<S.length
    ·exact Uq
    ·obtain rfl:j=S.length:=Ya;have HAl:Hid (S.all zm=true):=XF;rw[Z3]at HA⊢;have hcur:zm (zk input S)=true:=Tu;have HRe:Hid ((if(za5 input S l).2 && zm (za5 input S l).1 then((za5 input S l).1,0)else([],7))=RR):=TR;have hok2:zag l S.length=true:=Xd;obtain⟨HOk2,HCur⟩:=hd2 hok2 hcur;have hcs:=zao hcur;obtain⟨z1,z2⟩:=hcs;have qc:=HA.out.len;have HSz:=hid (zjP c HA.out);obtain⟨x0,x1,x2,x3,x4,x5,x6,x7,x8,xlt⟩:=HX1.out;generalize hz:zJ (zk input S)=sz at *;have HZ:=hid hz;clear hcur hok2 hz
     go_wp2_with fail
     refine HSz.out.mono ?_
     rintro e w' ⟨rfl,rfl⟩;have hk:=HKD.out
     rcases hk with hk|hk|hk
     ·have hraw:za5 input S l=([l.out],decide ((l.weights.length:Int)=l.out*sz)):=by unfold za5;rw[Zq hk,HZ.out]
      obtain⟨o1,o2⟩:=zpj HOk2.out hk;rw[hraw]at HRe;obtain⟨m1,m2⟩:=zeT o1 o2 z1 z2
      by_cases he:(l.weights.length:Int)=l.out*sz
      ·have HF:Hid (RR=znS [l.out]):=zd1 (r:=([l.out],decide ((l.weights.length:Int)=l.out*sz))) (Zk he) HRe.out;have t1:((l.weights.length:Int) != l.out*sz)=false:=VW;have t2:decide (¬ (l.weights.length:Int)=l.out*sz)=false:=Jv;have HAl1:Hid (∀W:World,z9 (W.alloc (.cells #[.int .i64 l.out] 3)) Any (some ⟨W.heap.size,0,none⟩) [l.out]):=fun W=>zgc W l.out _ ⟨Ya,Ya⟩
       clear hraw he HRe;have k1:(l.kind==1)=true:=Yn;clear hk
       go_wp2_with fail
       refine(zfj 1 (HAl1.out _)).mono ?_
       rintro e w3 ⟨⟨a5,c5,rfl,hI5,hc5⟩,hb5⟩;obtain⟨HI5,HC5,HB5⟩:=hd3 hI5 hc5 hb5;clear hI5 hc5 hb5;go_wp2
       go_ret2
       rw[HF.out];exact zaW.up (w1:=w1.alloc (.cells #[.int .i64 l.out] 3)) ⟨⟨a5,c5,rfl,HI5.out,HC5.out⟩,HB5.out⟩ (HB1.out.alloc HB1.out.size _)
      ·have HF:Hid (RR=([],7)):=zgd (r:=([l.out],decide ((l.weights.length:Int)=l.out*sz))) (Zo he) HRe.out;have t1:((l.weights.length:Int) != l.out*sz)=true:=Xa;have t2:decide (¬ (l.weights.length:Int)=l.out*sz)=true:=Jv;clear hraw he HRe;have k1:(l.kind==1)=true:=Yn;clear hk;exact Ts
     ·have hraw:za5 input S l=(zk input S,true):=YH;have HF:Hid (RR=znS (zk input S)):=zd1 (r:=(zk input S,true)) rfl JF;clear hraw HRe;have k1:(l.kind==1)=false:=bn0 Ya;have k2:(l.kind==2)=false:=bn0 Ya;have k3:(l.kind==3)=false:=bn0 Ya;have k4:(l.kind==4)=false:=bn0 Ya;have k6:(l.kind==6)=false:=bn0 Ya;have k7:(l.kind==7)=false:=bn0 Ya;clear hk
      go_wp2_with fail
      refine(zfj c HA.out).mono ?_
      rintro e w3 ⟨⟨a5,c5,rfl,hI5,hc5⟩,hb5⟩;obtain⟨HI5,HC5,HB5⟩:=hd3 hI5 hc5 hb5;clear hI5 hc5 hb5;go_wp2
      go_ret2
      rw[HF.out];exact zaW.up (w1:=w1) ⟨⟨a5,c5,rfl,HI5.out,HC5.out⟩,HB5.out⟩ HB1.out
     ·have hraw:za5 input S l=([sz],true):=by unfold za5;rw[Zh Ya,Zh Ya,Zh Ya,Zq hk,HZ.out]
      have HF:Hid (RR=znS [sz]):=zd1 (r:=([sz],true)) rfl JF;have HAl1:Hid (∀W:World,z9 (W.alloc (.cells #[.int .i64 sz] 3)) Any (some ⟨W.heap.size,0,none⟩) [sz]):=fun W=>zgc W sz _ ⟨Ya,Ya⟩
      clear hraw HRe;have k1:(l.kind==1)=false:=bn0 Ya;have k2:(l.kind==2)=false:=bn0 Ya;have k3:(l.kind==3)=false:=bn0 Ya;have k4:(l.kind==4)=false:=bn0 Ya;have k6:(l.kind==6)=true:=Yn;clear hk
      go_wp2_with fail
      refine(zfj 1 (HAl1.out _)).mono ?_
      rintro e w3 ⟨⟨a5,c5,rfl,hI5,hc5⟩,hb5⟩;obtain⟨HI5,HC5,HB5⟩:=hd3 hI5 hc5 hb5;clear hI5 hc5 hb5;go_wp2
      go_ret2
      rw[HF.out];exact zaW.up (w1:=w1.alloc (.cells #[.int .i64 sz] 3)) ⟨⟨a5,c5,rfl,HI5.out,HC5.out⟩,HB5.out⟩ (HB1.out.alloc HB1.out.size _)
theorem zqD{w:World}{u:Value}{input:List Int}{S:List (List Int)}{l:zae}{ai ash:Option Addr}(ci cs:Nat)(hi:z9 w Any ai input)(hS:za8 w Any ash S)(hu:zcG w u l)(hr:zO l)(hle:zbC l)(hn:S.length<=1000)(hk:l.kind=7):
  Calls Tryz.prog 62 #[.slice ai input.length ci,.slice ash S.length cs,u] w (zaW w (zY input S l)):=by
 obtain⟨b1,b2,d1,d2,rfl,r1,r2⟩:=hu.ex;have q1:=hi.len;have q2:=hS.len;have q3:=r1.len;have q4:=r2.len;obtain⟨HI,HS,HU,HRg,HLe,HN⟩:=hd6 hi hS hu hr hle hn;obtain⟨HKD,HVi⟩:=hd2 hk (fun W (hb:Below w.heap.size w W)=>zbm ci (hi.below hb));generalize hR:zY input S l=RR;have HR:=hid hR;unfold zY at hR;have HRd:=hid hR;clear hi hS hu r1 r2 hr hle hR hk
 go_enter Tryz.func62,Tryz.ntmps62
 go_upto_region 1 with fail
 have hb0:=blA w (zbu l b1 d1 b2 d2 44);have hx:=b9l w l b1 d1 b2 d2 44;generalize w.alloc (zbu l b1 d1 b2 d2 44)=W at *;obtain⟨HB0,HX,HVi2⟩:=hd3 hb0 hx (HVi.out W hb0);clear hb0 hx HVi;obtain⟨x0,x1,x2,x3,x4,x5,x6,x7,x8,xlt⟩:=HX.out
 cases hvi:zm input with
 | false=>
  exact US
 | true=>
  rw[hvi]at HVi2;have HVI:=hid hvi;clear hvi
  go_wp2_with fail
  refine HVi2.out.mono ?_
  rintro e w' ⟨rfl,rfl⟩
  go_wp2_with fail
  refine(zf1 (HU.out.below HB0.out) HRg.out HLe.out S.length HN.out).mono ?_
  rintro e w1 ⟨rfl,hb1⟩;have HB1:=htr HB0 hb1;have HX1:=hid (HX.out.below hb1);clear hb1 x0 x1 x2 x3 x4 x5 x6 x7 x8 xlt HVi2
  cases hok:(decide (S.length+1<=64) && zag l S.length)with
  | false=>
   exact Ov
  | true=>
   have HOK:=hid hok;clear hok;go_wp2
   go_loopw [8,9] (fun u i wr=>∃(j:Nat) (a:Option Addr) (c:Nat),j<=S.length/\i=.int .i64 (j:Int)/\u=.slice a (zk input (S.take j)).length c/\Hid (z9 w1 Any a (zk input (S.take j)))/\Hid ((S.take j).all zm=true)/\Hid (w1=wr)) (fun _ i _=>S.length-(intOf i).toNat)
   case atStart=>exact⟨0,ai,ci,Zs _,rfl,rfl,HI.out.below HB1.out,rfl,rfl⟩
   case round=>
    obtain⟨j,a,c,hj,rfl,rfl,HA,HV,HW⟩:=hrel;have ew:=HW.out;clear HW;subst ew
    by_cases hlt:j<S.length
    ·exact Uq
    ·obtain rfl:j=S.length:=Ya;have HAl:Hid (S.all zm=true):=XF;rw[Z3]at HA⊢;have hcur:zm (zk input S)=true:=Tu;have HRe:Hid ((if(za5 input S l).2 && zm (za5 input S l).1 then((za5 input S l).1,0)else([],7))=RR):=TR;have hok2:zag l S.length=true:=Xd;obtain⟨HOk2,HCur⟩:=hd2 hok2 hcur;have hcs:=zao hcur;obtain⟨z1,z2⟩:=hcs;have qc:=HA.out.len;have HSz:=hid (zjP c HA.out);obtain⟨x0,x1,x2,x3,x4,x5,x6,x7,x8,xlt⟩:=HX1.out;generalize hz:zJ (zk input S)=sz at *;have HZ:=hid hz;clear hcur hok2 hz
     go_wp2_with fail
     refine HSz.out.mono ?_
     rintro e w' ⟨rfl,rfl⟩;have hk:=HKD.out;have hraw:za5 input S l=(zk input S,zbY (if 0<=l.frm then S.getD l.frm.toNat []else input) (zk input S)):=YO;have o1:=zkC HOk2.out hk;rw[hraw]at HRe;clear hraw;have k1:(l.kind==1)=false:=bn0 Ya;have k2:(l.kind==2)=false:=bn0 Ya;have k3:(l.kind==3)=false:=bn0 Ya;have k4:(l.kind==4)=false:=bn0 Ya;have k6:(l.kind==6)=false:=bn0 Ya;have k7:(l.kind==7)=true:=Yn;clear hk;have HIn9:Hid (∀{x:List Int} {ax:Option Addr} (cx:Nat),z9 w1 Any ax x->Calls Tryz.prog 97 #[.slice ax x.length cx,.slice a (zk input S).length c] w1 fun e w'=>e=.returned (.bool (zbY x (zk input S)))/\Below w1.heap.size w1 w'):=fun cx hx=>(zsL cx c hx HA.out).mono fun e1 w' ⟨h1,n,h2⟩=>⟨h1,h2 ▸ Below.drewN_refl _ _⟩
     by_cases hf:0<=l.frm
     ·obtain⟨k,hkk⟩:∃k:Nat,l.frm=(k:Int):=⟨l.frm.toNat,Ya⟩
      have hkl:k<S.length:=Ya;obtain⟨bb,off,o,aj,cj,rfl,hcell,hl,hcj,hIo,hbb,_⟩:=(HS.out.below HB1.out).pickc hkl;have hcs0:(if 0<=l.frm then S.getD l.frm.toNat []else input)=o:=by rw[Zq hf,hkk,ZaM,Zf,hl];rfl
      have HIo:=hid hIo;have qo:=hIo.len;have hf2:(0:Int)<=(k:Int):=Ya;rw[hkk]at x1;have HKK:=hid hkk;clear hl hIo hkk hf o1;have HIt:=hid (HIn9.out cj HIo.out)
      cases hs:zbY o (zk input S)with
      | false=>
       exact UU
      | true=>
       exact U9
     ·have hcs0:(if 0<=l.frm then S.getD l.frm.toNat []else input)=input:=Zh hf;have HIi:=hid (HI.out.below HB1.out);clear o1;have HIt:=hid (HIn9.out ci HIi.out)
      cases hs:zbY input (zk input S)with
      | false=>
       exact UU
      | true=>
       exact U9
theorem zqy{w:World}{u:Value}{input:List Int}{S:List (List Int)}{l:zae}{ai ash:Option Addr}(ci cs:Nat)(hi:z9 w Any ai input)(hS:za8 w Any ash S)(hu:zcG w u l)(hr:zO l)(hle:zbC l)(hn:S.length<=1000)(hk:l.kind=2∨l.kind=3∨l.kind=4):
  Calls Tryz.prog 62 #[.slice ai input.length ci,.slice ash S.length cs,u] w (zaW w (zY input S l)):=by
 obtain⟨b1,b2,d1,d2,rfl,r1,r2⟩:=hu.ex;have q1:=hi.len;have q2:=hS.len;have q3:=r1.len;have q4:=r2.len;obtain⟨HI,HS,HU,HRg,HLe,HN⟩:=hd6 hi hS hu hr hle hn;obtain⟨HKD,HVi⟩:=hd2 hk (fun W (hb:Below w.heap.size w W)=>zbm ci (hi.below hb));generalize hR:zY input S l=RR;have HR:=hid hR;unfold zY at hR;have HRd:=hid hR;clear hi hS hu r1 r2 hr hle hR hk
 go_enter Tryz.func62,Tryz.ntmps62
 go_upto_region 1 with fail
 have hb0:=blA w (zbu l b1 d1 b2 d2 44);have hx:=b9l w l b1 d1 b2 d2 44;generalize w.alloc (zbu l b1 d1 b2 d2 44)=W at *;obtain⟨HB0,HX,HVi2⟩:=hd3 hb0 hx (HVi.out W hb0);clear hb0 hx HVi;obtain⟨x0,x1,x2,x3,x4,x5,x6,x7,x8,xlt⟩:=HX.out
 cases hvi:zm input with
 | false=>
  exact US
 | true=>
  rw[hvi]at HVi2;have HVI:=hid hvi;clear hvi
  go_wp2_with fail
  refine HVi2.out.mono ?_
  rintro e w' ⟨rfl,rfl⟩
  go_wp2_with fail
  refine(zf1 (HU.out.below HB0.out) HRg.out HLe.out S.length HN.out).mono ?_
  rintro e w1 ⟨rfl,hb1⟩;have HB1:=htr HB0 hb1;have HX1:=hid (HX.out.below hb1);clear hb1 x0 x1 x2 x3 x4 x5 x6 x7 x8 xlt HVi2
  cases hok:(decide (S.length+1<=64) && zag l S.length)with
  | false=>
   exact Ov
  | true=>
   have HOK:=hid hok;clear hok;go_wp2
   go_loopw [8,9] (fun u i wr=>∃(j:Nat) (a:Option Addr) (c:Nat),j<=S.length/\i=.int .i64 (j:Int)/\u=.slice a (zk input (S.take j)).length c/\Hid (z9 w1 Any a (zk input (S.take j)))/\Hid ((S.take j).all zm=true)/\Hid (w1=wr)) (fun _ i _=>S.length-(intOf i).toNat)
   case atStart=>exact⟨0,ai,ci,Zs _,rfl,rfl,HI.out.below HB1.out,rfl,rfl⟩
   case round=>
    obtain⟨j,a,c,hj,rfl,rfl,HA,HV,HW⟩:=hrel;have ew:=HW.out;clear HW;subst ew
    by_cases hlt:j<S.length
    ·exact Uq
    ·obtain rfl:j=S.length:=Ya;have HAl:Hid (S.all zm=true):=XF;rw[Z3]at HA⊢;have hcur:zm (zk input S)=true:=Tu;have HRe:Hid ((if(za5 input S l).2 && zm (za5 input S l).1 then((za5 input S l).1,0)else([],7))=RR):=TR;have hok2:zag l S.length=true:=Xd;obtain⟨HOk2,HCur⟩:=hd2 hok2 hcur;have hcs:=zao hcur;obtain⟨z1,z2⟩:=hcs;have qc:=HA.out.len;have HSz:=hid (zjP c HA.out);obtain⟨x0,x1,x2,x3,x4,x5,x6,x7,x8,xlt⟩:=HX1.out;generalize hz:zJ (zk input S)=sz at *;have HZ:=hid hz;clear hcur hok2 hz
     go_wp2_with fail
     refine HSz.out.mono ?_
     rintro e w' ⟨rfl,rfl⟩;have hk:=HKD.out;have HWn:=hid (zsf c l.kh l.kw l.stride l.pad HA.out);obtain⟨⟨y1,y2⟩,y3,y4⟩:=zkj (zk input S) l;have hlen:=(zbN HCur.out).1;obtain⟨bs,os,s0,rfl,cs0,hx0,_,hbs,_,s1,s2⟩:=HA.out.pick2 (k:=0) Ya;have hs0:(zk input S).getD 0 0=s0:=by rw[Zf,hx0];rfl
     have HS0:=hid hs0;have hs12:1<=s0/\s0<=16384:=zcY HCur.out _ (Zt hx0);rw[ZW]at cs0;obtain⟨HC0,HCl⟩:=hd2 cs0 hbs;have HP:Hid (∀e w',zcb w1 (zk input S) l.kh l.kw l.stride l.pad e w'->(∃a c,e=.returned (.tuple #[.slice a (zA (zk input S) l.kh l.kw l.stride l.pad).1.length c,.int .i64 (zaz (zk input S) l).1,.int .i64 (zaz (zk input S) l).2.1,.int .i64 (zaz (zk input S) l).2.2]))/\Below w1.heap.size w1 w'):=fun e w' ⟨a,c,h1,_,h3⟩=>⟨⟨a,c,h1⟩,h3⟩
     have HWin:=hid (HWn.out.mono fun e w' h=>HP.out e w' h);generalize hZ:zaz (zk input S) l=Z at *;have HZ2:=hid hZ;obtain⟨zR,zC,zE⟩:=Z;simp only at y1 y2 y3 y4 HWin;generalize(zA (zk input S) l.kh l.kw l.stride l.pad).1.length=wl at *;have hpos:0<(zk input S).length:=hlen;have HP0:=hid hpos;clear hZ hs0 hx0 cs0 hbs hlen HP HWn
     rcases hk with hk|hk|hk
     ·have hraw:za5 input S l=([l.out,zR,zC],decide (zE=0) && decide ((l.weights.length:Int)=l.out*s0*l.kh*l.kw)):=by unfold za5;rw[Zh Ya,Zq hk,HZ2.out,HS0.out]
      obtain⟨⟨o1,o2⟩,⟨g1,g2⟩,g3,g4⟩:=zpt HOk2.out hk;rw[hraw]at HRe;clear hraw;have k1:(l.kind==1)=false:=bn0 Ya;have k2:(l.kind==2)=true:=Yn;clear hk
      by_cases hE:zE=0
      ·have t1:(zE != 0)=false:=Vw;have t2:(zE==0)=true:=Vw;have t3:decide (¬ zE=0)=false:=KJ
       go_wp2_with fail
       refine HWin.out.mono ?_
       rintro e w2 ⟨⟨aw,cw,rfl⟩,hb2⟩;have HB2:=htr HB1 hb2;have HX2:=hid (HX1.out.below hb2);have hc2:=(hb2.cell (p:=⟨bs,os,none⟩) HCl.out).trans HC0.out;have hl2:bs<w2.heap.size:=Zd HCl.out hb2.size;clear hb2 x0 x1 x2 x3 x4 x5 x6 x7 x8 xlt;obtain⟨x0,x1,x2,x3,x4,x5,x6,x7,x8,xlt⟩:=HX2.out;have f0:=zF x0 xlt;have f2:=zF x2 xlt;have f3:=zF x3 xlt;have f4:=zF x4 xlt;have f7:=zF x7 xlt;have fs:=zF hc2 hl2;have HHE:=hid hE;clear hE;obtain⟨⟨m1,m2⟩,⟨m3,m4⟩,m5,m6⟩:=zke o1 o2 hs12.1 hs12.2 g1 g2 g3 g4;obtain⟨p1,hp1⟩:∃p1,l.out*s0=p1:=⟨_,rfl⟩
       obtain⟨p2,hp2⟩:∃p2,p1*l.kh=p2:=⟨_,rfl⟩
       obtain⟨p3,hp3⟩:∃p3,p2*l.kw=p3:=⟨_,rfl⟩
       rw[hp1]at m1 m2 m3 m4 m5 m6;rw[hp2]at m3 m4 m5 m6;rw[hp3]at m5 m6;have u1:IntKind.i64.wrap (l.out*s0)=p1:=Jn;have u2:IntKind.i64.wrap (p1*l.kh)=p2:=Jo;have u3:IntKind.i64.wrap (p2*l.kw)=p3:=Jp;rw[hp1,hp2,hp3,HHE.out]at HRe;clear hp1 hp2 hp3 m1 m2 m3 m4 m5 m6
       by_cases he:(l.weights.length:Int)=p3
       ·have HF:Hid (RR=znS [l.out,zR,zC]):=zd1 (r:=([l.out,zR,zC],decide ((0:Int)=0) && decide ((l.weights.length:Int)=p3))) Jv HRe.out;have v1:((l.weights.length:Int) != p3)=false:=VW;have HAl3:Hid (∀W:World,z9 (W.alloc (.cells #[.int .i64 l.out,.int .i64 zR,.int .i64 zC] 3)) Any (some ⟨W.heap.size,0,none⟩) [l.out,zR,zC]):=fun W=>zep W l.out zR zC _ ⟨Ya,Ya⟩ ⟨Ya,Ya⟩ ⟨Ya,Ya⟩
        clear he HRe;go_wp2
        refine zy Yc Yc ?_
        repeat (go_big_quiet_step (fail))
        refine wpQuiet_nil ?_
        intro _ hw';obtain⟨nq,hw''⟩:=hw';subst hw'';obtain⟨HB3,HX3⟩:=hd2 (HB2.out.trans ((zG w2 nq).mono HB2.out.size)) (HX2.out.below (zG w2 nq));have hc3:=((zG w2 nq).cell (p:=⟨bs,os,none⟩) hl2).trans hc2;clear f0 f2 f3 f4 f7 fs x0 x1 x2 x3 x4 x5 x6 x7 x8 xlt hc2 hl2;generalize ext w2 nq=w8 at *;obtain⟨x0,x1,x2,x3,x4,x5,x6,x7,x8,xlt⟩:=HX3.out
        go_wp2_with fail
        refine(zfj 3 (HAl3.out _)).mono ?_
        rintro e w3 ⟨⟨a5,c5,rfl,hI5,hc5⟩,hb5⟩;obtain⟨HI5,HC5,HB5⟩:=hd3 hI5 hc5 hb5;clear hI5 hc5 hb5;go_wp2
        go_ret2
        rw[HF.out];exact zaW.up (w1:=w8.alloc (.cells #[.int .i64 l.out,.int .i64 zR,.int .i64 zC] 3)) ⟨⟨a5,c5,rfl,HI5.out,HC5.out⟩,HB5.out⟩ (HB3.out.alloc HB3.out.size _)
       ·have HF:Hid (RR=([],7)):=zgd (r:=([l.out,zR,zC],decide ((0:Int)=0) && decide ((l.weights.length:Int)=p3))) Jv HRe.out;have v1:((l.weights.length:Int) != p3)=true:=Xa;clear he HRe;go_wp2
        refine zy Yc Yc ?_
        repeat (go_big_quiet_step (fail))
        refine wpQuiet_nil ?_
        intro _ hw';obtain⟨nq,hw''⟩:=hw';subst hw'';obtain⟨HB3,HX3⟩:=hd2 (HB2.out.trans ((zG w2 nq).mono HB2.out.size)) (HX2.out.below (zG w2 nq));have hc3:=((zG w2 nq).cell (p:=⟨bs,os,none⟩) hl2).trans hc2;clear f0 f2 f3 f4 f7 fs x0 x1 x2 x3 x4 x5 x6 x7 x8 xlt hc2 hl2;generalize ext w2 nq=w8 at *;obtain⟨x0,x1,x2,x3,x4,x5,x6,x7,x8,xlt⟩:=HX3.out;exact TV
      ·have t1:(zE != 0)=true:=Vc;have t2:(zE==0)=false:=Kz;have t3:decide (¬ zE=0)=true:=KJ;have HF:Hid (RR=([],7)):=zgd (r:=([l.out,zR,zC],decide (zE=0) && decide ((l.weights.length:Int)=l.out*s0*l.kh*l.kw))) KJ HRe.out
       go_wp2_with fail
       refine HWin.out.mono ?_
       rintro e w2 ⟨⟨aw,cw,rfl⟩,hb2⟩;have HB2:=htr HB1 hb2;have HX2:=hid (HX1.out.below hb2);clear hb2 x0 x1 x2 x3 x4 x5 x6 x7 x8 xlt hE HRe;go_wp2
       refine zy Yc Yc ?_
       repeat (go_big_quiet_step (fail))
       refine wpQuiet_nil ?_
       intro _ hw';obtain⟨nq,hw''⟩:=hw';subst hw'';have HB3:=hid (HB2.out.trans ((zG w2 nq).mono HB2.out.size));generalize ext w2 nq=w8 at *;exact TV
     ·have hraw:za5 input S l=([s0,zR,zC],decide (zE=0)):=Xc;rw[hraw]at HRe;clear hraw;have k1:(l.kind==1)=false:=bn0 Ya;have k2:(l.kind==2)=false:=bn0 Ya;have k3:(l.kind==3)=true:=Yn;exact Uj
     ·have hraw:za5 input S l=([s0,zR,zC],decide (zE=0)):=Xc;rw[hraw]at HRe;clear hraw;have k1:(l.kind==1)=false:=bn0 Ya;have k2:(l.kind==2)=false:=bn0 Ya;have k3:(l.kind==3)=false:=bn0 Ya;have k4:(l.kind==4)=true:=Yn;exact Uj
theorem zpV{w:World}{u:Value}{input:List Int}{S:List (List Int)}{l:zae}{ai ash:Option Addr}(ci cs:Nat)(hi:z9 w Any ai input)(hS:za8 w Any ash S)(hu:zcG w u l)(hr:zO l)(hle:zbC l)(hn:S.length<=1000)(hk:¬ (1<=l.kind/\l.kind<=7)):
  Calls Tryz.prog 62 #[.slice ai input.length ci,.slice ash S.length cs,u] w (zaW w (zY input S l)):=by
 obtain⟨b1,b2,d1,d2,rfl,r1,r2⟩:=hu.ex;have q1:=hi.len;have q2:=hS.len;have q3:=r1.len;have q4:=r2.len;obtain⟨HI,HS,HU,HRg,HLe,HN⟩:=hd6 hi hS hu hr hle hn;obtain⟨HKD,HVi⟩:=hd2 hk (fun W (hb:Below w.heap.size w W)=>zbm ci (hi.below hb));generalize hR:zY input S l=RR;have HR:=hid hR;unfold zY at hR;have HRd:=hid hR;clear hi hS hu r1 r2 hr hle hR hk
 go_enter Tryz.func62,Tryz.ntmps62
 go_upto_region 1 with fail
 have hb0:=blA w (zbu l b1 d1 b2 d2 44);have hx:=b9l w l b1 d1 b2 d2 44;generalize w.alloc (zbu l b1 d1 b2 d2 44)=W at *;obtain⟨HB0,HX,HVi2⟩:=hd3 hb0 hx (HVi.out W hb0);clear hb0 hx HVi;obtain⟨x0,x1,x2,x3,x4,x5,x6,x7,x8,xlt⟩:=HX.out
 cases hvi:zm input with
 | false=>
  exact US
 | true=>
  rw[hvi]at HVi2;have HVI:=hid hvi;clear hvi
  go_wp2_with fail
  refine HVi2.out.mono ?_
  rintro e w' ⟨rfl,rfl⟩
  go_wp2_with fail
  refine(zf1 (HU.out.below HB0.out) HRg.out HLe.out S.length HN.out).mono ?_
  rintro e w1 ⟨rfl,hb1⟩;have HB1:=htr HB0 hb1;have HX1:=hid (HX.out.below hb1);clear hb1 x0 x1 x2 x3 x4 x5 x6 x7 x8 xlt HVi2;have hok:(decide (S.length+1<=64) && zag l S.length)=false:=by unfold zag;rw[zfo l _ HKD.out];simp
  have HF:Hid (RR=([],1)):=YN;rw[hok];clear hok;exact Ts
theorem zqW{w:World}{u:Value}{input:List Int}{S:List (List Int)}{l:zae}{ai ash:Option Addr}(ci cs:Nat)(hi:z9 w Any ai input)(hS:za8 w Any ash S)(hu:zcG w u l)(hr:zO l)(hle:zbC l)(hn:S.length<=1000):
  Calls Tryz.prog 62 #[.slice ai input.length ci,.slice ash S.length cs,u] w (zaW w (zY input S l)):=by
 by_cases hk:1<=l.kind/\l.kind<=7
 ·have:(l.kind=1∨l.kind=5∨l.kind=6)∨(l.kind=2∨l.kind=3∨l.kind=4)∨l.kind=7:=Ya
  rcases this with h|h|h
  ·exact zp6 ci cs hi hS hu hr hle hn h
  ·exact zqy ci cs hi hS hu hr hle hn h
  ·exact zqD ci cs hi hS hu hr hle hn h
 ·exact zpV ci cs hi hS hu hr hle hn hk
theorem zof{W w1:World}{p bl o:Nat}{q0 q1 p0 p1 p2 p3 p4 p5 p6 p7 p8:Value}(hh:za1 W p q0 q1)(hbl:bl<W.heap.size)
 (hc:W.cell? ⟨bl,o,none⟩=some p0/\W.cell? ⟨bl,o+1,none⟩=some p1/\W.cell? ⟨bl,o+2,none⟩=some p2/\W.cell? ⟨bl,o+3,none⟩=some p3/\W.cell? ⟨bl,o+4,none⟩=some p4/\W.cell? ⟨bl,o+5,none⟩=some p5/\W.cell? ⟨bl,o+6,none⟩=some p6/\W.cell? ⟨bl,o+7,none⟩=some p7/\W.cell? ⟨bl,o+8,none⟩=some p8)(hb:Below W.heap.size W w1):
  w1.cell? ⟨p,0,none⟩=some q0/\w1.cell? ⟨p,1,none⟩=some q1/\w1.cell? ⟨bl,o,none⟩=some p0/\w1.cell? ⟨bl,o+1,none⟩=some p1/\w1.cell? ⟨bl,o+2,none⟩=some p2/\w1.cell? ⟨bl,o+3,none⟩=some p3/\w1.cell? ⟨bl,o+4,none⟩=some p4/\w1.cell? ⟨bl,o+5,none⟩=some p5/\w1.cell? ⟨bl,o+6,none⟩=some p6/\w1.cell? ⟨bl,o+7,none⟩=some p7/\w1.cell? ⟨bl,o+8,none⟩=some p8:=by
 obtain⟨h0,h1,h2,h3,h4,h5,h6,h7,h8⟩:=hc;exact⟨(hb.cell hh.lt).trans hh.c0,(hb.cell hh.lt).trans hh.c1,(hb.cell hbl).trans h0,(hb.cell hbl).trans h1,(hb.cell hbl).trans h2,(hb.cell hbl).trans h3,(hb.cell hbl).trans h4,(hb.cell hbl).trans h5,(hb.cell hbl).trans h6,(hb.cell hbl).trans h7,(hb.cell hbl).trans h8⟩
theorem zry{w:World}{m:zgt}{a1 a2:Option Addr}(c1 c2:Nat)(h1:z9 w Any a1 m.input)(h2:zaO w a2 m.layers)(hr:∀l∈m.layers,zO l)(hs:∀l∈m.layers,zbC l):
  Calls Tryz.prog 36 #[.agg #[.slice a1 m.input.length c1,.slice a2 m.layers.length c2]] w (zmx w (zab m)):=by
 have q1:=h1.len;have q2:=h2.len;obtain⟨H1,H2,HRg,HSh⟩:=hd4 h1 h2 hr hs;generalize hR:zab m=RR;have HR:=hid hR;unfold zab at hR;have HRd:=hid hR;clear h1 h2 hr hs hR
 go_enter Tryz.func36,Tryz.ntmps36
 go_upto_region 1 with fail
 have hb0:=blA w (.cells #[.slice a1 m.input.length c1,.slice a2 m.layers.length c2] 25);have hx:=za1.alloc w (.slice a1 m.input.length c1) (.slice a2 m.layers.length c2) 25;generalize w.alloc (.cells #[.slice a1 m.input.length c1,.slice a2 m.layers.length c2] 25)=W at *;obtain⟨HB0,HX⟩:=hd2 hb0 hx;obtain⟨x0,x1,xf,xlt⟩:=hx;clear hb0
 go_wp2_with fail
 refine(zj5 c1 c2 (H1.out.below HB0.out) (H2.out.below HB0.out) HRg.out HSh.out).mono ?_
 rintro e w1 ⟨rfl,hb1⟩;have HX1:=hid (HX.out.below hb1);have HB1:=htr HB0 hb1;clear hb1 x0 x1 xf xlt
 cases hvm:zbl m with
 | false=>
  exact E7
 | true=>
  have HRe:Hid (zT m.input [] m.layers=RR):=Ko;have hv:=ziU hvm;have HL64:=hid hv.2.1;have hl64:=hv.2.1;obtain⟨HVI,HAt⟩:=hd2 hv.1 hv.2.2;obtain⟨x0,x1,xf,xlt⟩:=HX1.out;clear hvm hv;go_wp2;clear x0 x1 xf xlt
  go_loopw [5,6] (fun u i wr=>∃(j:Nat) (xs:List Value) (T:List (List Int)),j<=m.layers.length/\i=.int .i64 (j:Int)/\Hid (T.length=j)/\Hid (zT m.input T (m.layers.drop j)=RR)/\Hid (T.all zm=true)/\Hid (zcC wr w1.heap.size 22 u xs T)/\Hid (Below w1.heap.size w1 wr)) (fun _ i _=>m.layers.length-(intOf i).toNat)
  case atStart=>exact⟨0,[],[],Zs _,rfl,rfl,HRe.out,rfl,zcC.nil _ _ _,Zg _ _⟩
  case round=>
   obtain⟨j,xs,T,hj,rfl,HTl,HS,HTv,HOw,HB⟩:=hrel;have hbw:=HB1.out.trans (HB.out.mono HB1.out.size);obtain⟨av,cv,hu,hT⟩:=HOw.out.intss Xp;rw[HTl.out]at hu;subst hu
   by_cases hlt:j<m.layers.length
   ·obtain⟨x0,x1,xf,xlt⟩:=HX1.out.below HB.out;obtain⟨bl,ol,l,rfl,hbl,hl,b1,b2,d1,d2,⟨l0,l1,l2,l3,l4,l5,l6,l7,l8⟩,r1,r2⟩:=(H2.out.below hbw).pick hlt;have hmem:=Zt hl;have hdrop:m.layers.drop j=l::m.layers.drop (j+1):=UP;have HStep:Hid ((if(zY m.input T l).2=0 then zT m.input (T++[(zY m.input T l).1]) (m.layers.drop (j+1))else([],(j:Int),(zY m.input T l).2))=RR):=by
     have:=HS.out;rw[hdrop,zbx,HTl.out]at this;exact this
    have HO:=hid (fun W (hb:Below wr.heap.size wr W)=>zqW (w:=W) (u:=.agg #[.int .i64 l.kind,.int .i64 l.frm,.int .i64 l.out,.int .i64 l.kh,.int .i64 l.kw,.int .i64 l.stride,.int .i64 l.pad,.slice b1 l.weights.length d1,.slice b2 l.bias.length d2]) c1 cv (H1.out.below (hbw.trans (hb.mono hbw.size))) ((hT.mono (F':=Any) (fun _ _ _=>trivial)).below hb) ⟨b1,b2,d1,d2,rfl,r1.below hb,r2.below hb⟩ (HRg.out l hmem) (HSh.out l hmem) Xp);have hlay:=HAt.out j l hl;have HSev:Hid ((zY m.input T l).2≠0->(zY m.input T l).2=7):=fun h=>zgn HVI.out Xp (by rw[HTl.out];exact hlay) HTv.out h
    have HVal:Hid ((zY m.input T l).2=0->zm (zY m.input T l).1=true):=fun h=>zcy h
    have p1:=r1.len;have p2:=r2.len;have HLy:Hid (zjM wr bl (ol+j*9) l/\bl<wr.heap.size/\za1 wr w.heap.size (.slice a1 m.input.length c1) (.slice (some ⟨bl,ol,none⟩) m.layers.length c2)):=⟨⟨b1,b2,d1,d2,⟨l0,l1,l2,l3,l4,l5,l6,l7,l8⟩,r1,r2⟩,hbl,HX1.out.below HB.out⟩
    have HCe:Hid (wr.cell? ⟨bl,ol+j*9,none⟩=some (.int .i64 l.kind)/\wr.cell? ⟨bl,ol+j*9+1,none⟩=some (.int .i64 l.frm)/\wr.cell? ⟨bl,ol+j*9+2,none⟩=some (.int .i64 l.out)/\wr.cell? ⟨bl,ol+j*9+3,none⟩=some (.int .i64 l.kh)/\wr.cell? ⟨bl,ol+j*9+4,none⟩=some (.int .i64 l.kw)/\wr.cell? ⟨bl,ol+j*9+5,none⟩=some (.int .i64 l.stride)/\wr.cell? ⟨bl,ol+j*9+6,none⟩=some (.int .i64 l.pad)/\wr.cell? ⟨bl,ol+j*9+7,none⟩=some (.slice b1 l.weights.length d1)/\wr.cell? ⟨bl,ol+j*9+8,none⟩=some (.slice b2 l.bias.length d2)):=⟨l0,l1,l2,l3,l4,l5,l6,l7,l8⟩
    rw[HTl.out]at HO;have HO2:=hid (fun W (hb:Below wr.heap.size wr W)=>(HO.out W hb).mono fun e w' (h:zaW W (zY m.input T l) e w')=>(⟨h,hb.trans (h.2.mono hb.size)⟩:zaW W (zY m.input T l) e w'/\Below wr.heap.size wr w'));have xbl:Below wr.heap.size wr wr.drew:=(Zg _ _).drew;have hli:(0:Int)<=(j:Int):=Ya;have hli2:(j:Int)<(m.layers.length:Int):=Ya;generalize zY m.input T l=P at *;obtain⟨o,er⟩:=P;simp only at HStep HSev HVal;have hjm:j*9=j*9:=rfl;clear hmem hl hdrop hbw hT r1 r2 HS hlay HO l0 l1 l2 l3 l4 l5 l6 l7 l8 hjm
    go_upto_region 7 with fail
    clear x0 x1 xf xlt
    go_region_held3 (fun w'=>w'.cell? ⟨w.heap.size,0,none⟩=some (.slice a1 m.input.length c1)/\w'.cell? ⟨w.heap.size,1,none⟩=some (.slice (some ⟨bl,ol,none⟩) m.layers.length c2)/\w'.cell? ⟨bl,ol+j*9,none⟩=some (.int .i64 l.kind)/\w'.cell? ⟨bl,ol+j*9+1,none⟩=some (.int .i64 l.frm)/\w'.cell? ⟨bl,ol+j*9+2,none⟩=some (.int .i64 l.out)/\w'.cell? ⟨bl,ol+j*9+3,none⟩=some (.int .i64 l.kh)/\w'.cell? ⟨bl,ol+j*9+4,none⟩=some (.int .i64 l.kw)/\w'.cell? ⟨bl,ol+j*9+5,none⟩=some (.int .i64 l.stride)/\w'.cell? ⟨bl,ol+j*9+6,none⟩=some (.int .i64 l.pad)/\w'.cell? ⟨bl,ol+j*9+7,none⟩=some (.slice b1 l.weights.length d1)/\w'.cell? ⟨bl,ol+j*9+8,none⟩=some (.slice b2 l.bias.length d2))
     (first|exact zof HLy.out.2.2 HLy.out.2.1 HCe.out YC)
     (first
      | (go_at_call 62; refine (HO2.out _ ?hb).mono ?_
         case hb=>assumption
         rintro e w2 ⟨⟨⟨a5,c5,rfl,hI5,hc5⟩,hb9⟩,p3⟩))
    all_goals
    have hb2:Below wr.heap.size wr w2:=p3;have HB2:=htr HB hb2;obtain⟨HOw2,HI5,HC5⟩:=hd3 (HOw.out.frame hb2) hI5 hc5;have HLt:Hid (∀b,(Value.slice av j cv).ownBlock=some b->b<wr.heap.size):=fun b hb=>HOw.out.lt b hb
    have hgeV:Hid (w1.heap.size<=wr.heap.size):=HB.out.size;have HX2:=hid (HX1.out.below HB2.out);clear hI5 hc5 hb2 p3 hb9 HO2 xbl HLy HCe
    by_cases he:er=0
    ·have HStep2:Hid (zT m.input (T++[o]) (m.layers.drop (j+1))=RR):=KA;have t1:(er != 0)=false:=VO;have t2:(er==0)=true:=VO;have t3:decide (¬ er=0)=false:=Jv;obtain⟨HTj,HV2⟩:=hd2 (show j<64 from Ya) (HVal.out he);clear he
     go_wp2_with (at_builtin;refine zal rfl (.tmp 34) (.tmp 36) 65 rfl w1.heap.size 22 (.slice none 0 0) 24 Tryz.underlying65 Yc rfl (.slice av j cv) j xs rfl KG (.slice a5 o.length c5) rfl rfl (by have:=HTj.out;omega) Vs (by exact HB2.out.size) ?_;intro v' w' hown hg hn2;have HOwn:=hid hown;have HG:=hid hg;have HN2:=hid hn2;clear hown hg hn2)
     have happ:=HOw2.out.app (l:=o) HI5.out HC5.out (fun b hb=>⟨Zl hgeV.out hb,fun e=>by have:=HLt.out b e;have h2:wr.heap.size<=b:=hb;omega⟩) (by rw[HTl.out];exact HOwn.out) HG.out HN2.out;obtain⟨HApp,HB3⟩:=hd2 happ (HB2.out.grown HG.out HB2.out.size (fun k hk=>(HOw2.out.own.lt k hk).1));clear happ;go_roundw
     case rel=>exact⟨j+1,_,T++[o],hlt,Yg,KN,HStep2.out,by unfold Hid;rw[ZbA,HTv.out,List.all_cons,List.all_nil,HV2.out];rfl,HApp.out,HB3.out⟩
     case measure=>simp[intOf];omega
    ·have HF:Hid (RR=([],(j:Int),7)):=by unfold Hid;rw[<- HStep.out,Zh he,HSev.out he]
     have t1:(er != 0)=true:=Xa;have t2:(er==0)=false:=by rw[Z7];exact he
     exact TY
   ·obtain rfl:j=m.layers.length:=Ya;have HF:Hid (RR=(T,0,0)):=by
     have h:=HS.out;rw[Zbu]at h;exact h.symm
    obtain⟨HT,HBw⟩:=hd2 hT hbw;obtain⟨x0,x1,xf,xlt⟩:=HX1.out.below HB.out;exact TL
theorem zfs{fn:Func}{t u:Tmp}(h:fn.results=#[.tmp t,.tmp u])(tmps:Array Value)(P:Program)(w:World):
  (results fn tmps).run P w=.ok (.tuple #[tmps.getD t undef,tmps.getD u undef]) w:=by
 simp[results,h]
theorem zdr(q:Rat):zL (zh q)=true:=by
 unfold zL;rw[zcz,zax];exact Zk rfl
theorem zmu{q:Rat}(h:zbF (zh q)=true):q.den<=4294967296/\q.num.natAbs<=18446744073709551616:=by
 unfold zbF at h;rw[Zw,Zy,Zy]at h;obtain⟨h1,h2⟩:=h
 constructor
 ·by_cases hd:q.den=1
  ·omega
  ·have e:(zh q).den=ze q.den:=by simp[zh,hd]
   rw[e]at h2;have:=zaS q.den;exact Z6 (Zd this (Zl (ZE Ya h2) Ya))
 ·have e:(zh q).num=ze q.num.natAbs:=rfl;rw[e]at h1;have:=zaS q.num.natAbs;exact Z6 (Zd this (Zl (ZE Ya h1) Yb))
theorem zeo{L:List zaI}(h:zaX L=true):L=(L.map zbc).map zh/\∀q∈L.map zbc,q.den<=4294967296/\q.num.natAbs<=18446744073709551616:=by
 unfold zaX at h;rw[Zw]at h;have hb:=zbL h.2
 refine⟨hb,fun q hq=>zmu ?_⟩
 exact Zap.1 h.1 _ (by rw[hb];exact List.mem_map_of_mem hq)
theorem zpb{l:zae}(h:zdA l=true):zdM l:=by
 unfold zdA at h;simp only[Zw,Zy]at h;obtain⟨h1,h2,h3,h4⟩:=h
 refine⟨fun q hq=>?_,by rw[ZB];simp[wq,bq];omega⟩
 rcases Zay.1 hq with hq|hq
 ·exact(zeo h3).2 q hq
 ·exact(zeo h4).2 q hq
theorem zn0{a b c:Nat}(M:Nat)(hM:2<=M)(h:a+b+2<=c){x y:Nat}(hx:x<=M^a)(hy:y<=M^b):x*y+y<M^c:=by
 have h1:x*y<=M^(a+b):=by rw[Zaf];exact Z8 hx hy
 have h2:M^b<=M^(a+b):=ZE Ya Ya;have h4:M^(a+b+2)<=M^c:=ZE Ya h;have h5:0<M^(a+b):=Nat.pow_pos Ya;have h6:M^(a+b+2)=M^(a+b)*(M*M):=by rw[Zaf,Nat.pow_two]
 have h7:4<=M*M:=Z8 hM hM;have h8:M^(a+b)*4<=M^(a+b)*(M*M):=ZT _ h7;omega
theorem zqe{M C:Nat}(hC:C<=M^3)(k:Nat):C^k<=M^(3*k):=by rw[Nat.pow_mul];exact Nat.pow_le_pow_left hC k
theorem zon(M C U p q u:Nat)(hM:2<=M)(hC:C<=M^3)(hU:U<=M^u){W n c:Nat}(hW:W<=M^n)(hc:3+(3*q+u)+(n+p*q+p)+2<=c):∀D' B',D'<=W*(M^p)^q->B'<=C^q*U->(C*B')*(D'*M^p)+D'*M^p<M^c:=by
 intro D B hD hB;have h1:B<=M^(3*q+u):=Zl hB (by rw[Zaf];exact Z8 (zqe hC q) hU);have h2:C*B<=M^(3+(3*q+u)):=by rw[Zaf M 3];exact Z8 hC h1
 have h3:D<=M^(n+p*q):=Zl hD (by rw[Zaf,Nat.pow_mul];exact Zp _ hW);have h4:D*M^p<=M^(n+p*q+p):=by rw[Zaf M (n+p*q)];exact Zp _ h3
 exact zn0 M hM hc h2 h4
theorem zkG{W U:Nat}{n u:Nat}(hW:W<=4294967296^n)(hU:U<=4294967296^u)(hn:n+u<=400):zgw 12 W U:=by
 intro D B hD hB;unfold zp2;obtain⟨p,hp,e⟩:=zq1;rw[e]at hD⊢;have hc:3+(3*12+u)+(n+p*12+p)+2<=524285:=Ya;generalize(524285:Nat)=c at hc⊢;exact zon 4294967296 9671406556917033397649408 U p 12 u Ya Yb hU hW hc D B hD hB
theorem zqp{W:Nat}{n:Nat}(hW:W<=4294967296^n)(hn:n<=390):zgw 12 W 18446744073709551616:=zkG (u:=2) hW Yb Ya
structure zs6 (m:zgt) (L:List zaI):Prop where
 back:L=(L.map zbc).map zh
 sm:∀l∈m.layers,zdM l
 room:∃D,0<D/\BdL D 18446744073709551616 (L.map zbc)/\zgw 12 D 18446744073709551616
 lens:m.layers.length<=8
 xl:L.length<=30
theorem zi1{m:zgt}{L:List zaI}(h:ziV m L=true):zs6 m L:=by
 unfold ziV at h;simp only[Zw,Zy]at h;obtain⟨h1,h2,h3,h4,h5,h6⟩:=h;obtain⟨hb,hs⟩:=zeo h6;obtain⟨W,w1,w2,w3⟩:=BdL.small _ hs;rw[ZP]at w2;exact⟨hb,fun l hl=>zpb (Zap.1 h5 l hl),⟨W,w1,w3,zqp w2 Ya⟩,h1,h3⟩
def exD:zae:=⟨1,0,1,0,0,0,0,[zh 1,zh (-1)],[zh 0]⟩
def exR:zae:=⟨5,0,0,0,0,0,0,[],[]⟩
def exM:zgt:=⟨[2],[exD,exR]⟩
theorem zhI:zh 1=⟨false,[1],[]⟩:=by
 have:=zhY 1;rw[show((1:Int):Rat)=1 from rfl]at this;rw[this,show(1:Int).natAbs=1 from rfl,zdV];rfl
theorem zi3:zh (-1)=⟨true,[1],[]⟩:=by
 have:=zhY (-1);rw[show(((-1:Int)):Rat)= -1 from rfl]at this;rw[this,show(-1:Int).natAbs=1 from rfl,zdV];rfl
theorem znZ:zem exD=true:=by unfold zem exD;simp[zdr]
theorem zow:zem exR=true:=rfl
theorem zpH:zag exD 0=true:=by unfold zag;rw[znZ];decide
theorem zpA:zag exR 1=true:=by unfold zag;rw[zow];decide
theorem zmQ:zY [2] [] exD=([1],0):=by
 unfold zY;rw[show zag exD (([]:List (List Int)).length:Int)=true from zpH]
 decide+kernel
theorem znq:zY [2] [[1]] exR=([1],0):=by
 unfold zY;rw[show zag exR (([[1]]:List (List Int)).length:Int)=true from zpA]
 decide+kernel
theorem zlU:zbl exM=true:=by
 show(zm [2] && (decide (2<=64) && (zag exD 0 && (zag exR (0+1) && true))))=true
 rw[zpH,show zag exR (0+1)=true from zpA]
 decide
theorem zla:zab exM=([[1],[1]],0,0):=by
 unfold zab;rw[Zq zlU];show zT [2] [] [exD,exR]=_
 unfold zT;rw[zmQ];show zT [2] [[1]] [exR]=_
 unfold zT;rw[znq];rfl
theorem zoZ(p q:Rat)(hp:zbF (zh p)=true)(hq:zbF (zh q)=true):ziV exM ([p,q].map zh)=true:=by
 have s1:zbF (zh 1)=true:=by rw[zhI];rfl
 have s2:zbF (zh (-1))=true:=by rw[zi3];rfl
 have s0:zbF (zh 0)=true:=by rw[zd5];rfl
 have hl:zaX ([p,q].map zh)=true:=by simp[zaX,hp,hq,zdr]
 have hw:zaX [zh 1,zh (-1)]=true:=by simp[zaX,s1,s2,zdr]
 have hb:zaX [zh 0]=true:=by simp[zaX,s0,zdr]
 have o1:zdA exD=true:=by
  unfold zdA;rw[show exD.weights=[zh 1,zh (-1)]from rfl,show exD.bias=[zh 0]from rfl,hw,hb];rfl
 have o2:zdA exR=true:=rfl;unfold ziV;rw[hl,show exM.layers=[exD,exR]from rfl,List.all_cons,List.all_cons,o1,o2,show([p,q].map zh).length=2 from rfl]
 decide+kernel
theorem znE:∀l∈exM.layers,zO l:=by
 intro l hl;have:l=exD∨l=exR:=by simpa [exM]using hl
 rcases this with rfl|rfl<;>(unfold zO I64;simp[exD,exR])
theorem zrm:∀l∈exM.layers,zbC l:=by
 intro l hl;have:l=exD∨l=exR:=by simpa [exM]using hl
 have r1:zaf (zh 1) 1048576:=by rw[zhI];exact⟨Yd,Yd⟩
 have r2:zaf (zh (-1)) 1048576:=by rw[zi3];exact⟨Yd,Yd⟩
 have r0:zaf (zh 0) 1048576:=by rw[zd5];exact⟨Yd,Yd⟩
 rcases this with rfl|rfl
 ·refine⟨fun x hx=>?_,fun x hx=>?_⟩
  ·have:x=zh 1∨x=zh (-1):=by simpa [exD]using hx
   rcases this with rfl|rfl<;>assumption
  ·have:x=zh 0:=by simpa [exD]using hx
   subst this;exact r0
 ·exact⟨by simp[exR],by simp[exR]⟩
theorem zj7:∀{L:List zae} {T:List (List Int)} (l:zae) (s:List Int),T.length=L.length->zfK (L++[l]) (T++[s])=zfK L T+zhl l (zJ s)
 | [],[],l,s,_=>by
  show zhl l (zJ s)+0=0+_
  omega
 | a::L,t::T,l,s,h=>by
  show zhl a (zJ t)+zfK (L++[l]) (T++[s])=(zhl a (zJ t)+zfK L T)+_
  rw[zj7 l s VJ];omega
 | [],_::_,_,_,h=>by simp at h
 | _::_,[],_,_,h=>by simp at h
structure zfM (L:List zae) (T:List (List Int)):Prop where
 len:T.length=L.length
 few:L.length<=64
 ok:∀(j:Nat) (l:zae) (s:List Int),L[j]? =some l->T[j]? =some s->0<=zJ s/\zJ s<=16384/\(l.kind=3->1<=l.kh*l.kw/\l.kh*l.kw<=262144)
theorem zfM.step{L:List zae}{T:List (List Int)}(h:zfM L T){j:Nat}{l:zae}{s:List Int}(hl:L[j]? =some l)(hs:T[j]? =some s):zfK (L.take (j+1)) (T.take (j+1))=zfK (L.take j) (T.take j)+zhl l (zJ s):=by
 rw[Zat,Zat,hl,hs];exact zj7 l s (by rw[ZZ,ZZ,h.len])
theorem zfM.cnt1{L:List zae}{T:List (List Int)}(h:zfM L T){j:Nat}{l:zae}{s:List Int}(hl:L[j]? =some l)(hs:T[j]? =some s):0<=zhl l (zJ s)/\zhl l (zJ s)<=4294967296:=by
 obtain⟨h1,h2,h3⟩:=h.ok j l s hl hs;unfold Go.Proofs.YtfgmmghmmfmdgaaGreat.zhl
 split
 ·omega
 ·split
  ·rename_i hk
   obtain⟨k1,k2⟩:=h3 hk
   refine⟨Int.mul_nonneg Ya h1,?_⟩
   have:=ZaB (show l.kh*l.kw-1<=262144 from Ya) h2 h1 Ya;omega
  ·omega
theorem zfM.bd{L:List zae}{T:List (List Int)}(h:zfM L T):∀j,j<=L.length->0<=zfK (L.take j) (T.take j)/\zfK (L.take j) (T.take j)<=(j:Int)*4294967296
 | 0,_=>by simp[zfK]
 | j+1,hj=>by
  have hl:L[j]? =some L[j]:=Zn Ya;have hs:T[j]? =some (T[j]'(by rw[h.len];omega)):=Zn _;obtain⟨a1,a2⟩:=h.bd j Ya;obtain⟨b1,b2⟩:=h.cnt1 hl hs;rw[h.step hl hs];omega
theorem zth{w:World}{a aS:Option Addr}{L:List zae}{T:List (List Int)}{F:Nat->Prop}(c cS:Nat)(h1:zaO w a L)(h2:za8 w F aS T)(hO:zfM L T):
  Calls Tryz.prog 32 #[.slice a L.length c,.slice aS T.length cS] w (fun e w'=>e=.returned (.int .i64 (zfK L T))/\Below w.heap.size w w'):=by
 obtain⟨H1,H2,HO,HTl⟩:=hd4 h1 h2 hO hO.len;have hL6:=hO.few;have hTL:T.length<=64:=by rw[hO.len];exact hL6
 clear h1 h2 hO
 go_enter Tryz.func32,Tryz.ntmps32
 go_wp2
 go_loopw [5,10] (fun v i wr=>∃(j:Nat) (n:Int),j<=L.length/\v=.int .i64 n/\i=.int .i64 (j:Int)/\Hid (n=zfK (L.take j) (T.take j))/\Hid (Below w.heap.size w wr)) (fun _ i _=>L.length-(intOf i).toNat)
 case atStart=>exact⟨0,0,Zs _,rfl,rfl,rfl,Zg _ _⟩
 case round=>
  obtain⟨j,n,hj,rfl,rfl,HN,HB⟩:=hrel;have hnb:=HO.out.bd j hj;rw[<- HN.out]at hnb
  by_cases hlt:j<L.length
  ·obtain⟨bl,ol,l,ha2,hbl,hl,b1,b2,d1,d2,⟨l0,l1,l2,l3,l4,l5,l6,l7,l8⟩,r1,r2⟩:=H1.out.pick hlt;obtain⟨bT,oT,t,aT,ct,haT,tc0,hTi,htc,hIt,hbT,_⟩:=H2.out.pickc (k:=j) Y4;have hc9:=fun o=>HB.out.cell (p:=⟨bl,o,none⟩) hbl
   have l0:=(hc9 _).trans l0;have l1:=(hc9 _).trans l1;have l2:=(hc9 _).trans l2;have l3:=(hc9 _).trans l3;have l4:=(hc9 _).trans l4;have l5:=(hc9 _).trans l5;have l6:=(hc9 _).trans l6;have l7:=(hc9 _).trans l7;have l8:=(hc9 _).trans l8;have hbl2:=Zd hbl HB.out.size;have hstep:=HO.out.step hl hTi;obtain⟨z0,z1,z3⟩:=HO.out.ok j l t hl hTi;have hcb:=HO.out.cnt1 hl hTi;have hal:=blA wr (zbu l b1 d1 b2 d2 44);have HBx9:=hid (b9l wr l b1 d1 b2 d2 44);have HBj:=htr HB hal;have tc0:=(HBj.out.cell (p:=⟨bT,oT+j,none⟩) hbT).trans tc0;have hbT2:=Zd hbT HBj.out.size;obtain⟨HSz,HStep,HN1⟩:=hd3 (fun X (hb:Below w.heap.size w X)=>zmq ct (hIt.below hb)) hstep HN.out;have hjT:j<T.length:=Y4;subst ha2 haT;clear hl hTi hIt hal hc9 r1 r2 hstep HN htc
   go_upto_region 5 with fail
   generalize wr.alloc (zbu l b1 d1 b2 d2 44)=wj at *;clear l0 l1 l2 l3 l4 l5 l6 l7 l8;obtain⟨l0,l1,l2,l3,l4,l5,l6,l7,l8,l9⟩:=HBx9.out;generalize hzz:zJ t=z at *;have HSzz:=HSz;have HSz':=hid (HSz.out wj HBj.out);clear HSz hzz;have HRel:Hid (∀(d:Int) (X:World),zhl l z=d->Below w.heap.size w X->n+d=zfK (L.take (j+1)) (T.take (j+1))/\Below w.heap.size w X):=fun d X h hb=>by
    rw[HStep.out,h,HN1.out];exact⟨rfl,hb⟩
   by_cases hk5:l.kind=5
   ·exact Ti
   ·have q5:decide (l.kind=5)=false:=by simp[hk5]
    have q5b:(l.kind==5)=false:=by simp[hk5]
    by_cases hk3:l.kind=3
    ·obtain⟨p,hp⟩:∃p,p=l.kh*l.kw:=⟨_,rfl⟩
     obtain⟨q,hq⟩:∃q,q=(p-1)*z:=⟨_,rfl⟩
     have hc:zhl l z=q:=by unfold zhl;rw[Zh hk5,Zq hk3,hq,hp]
     obtain⟨p1,p2⟩:=z3 hk3;rw[<- hp]at p1 p2;rw[hc]at hcb;have m1:IntKind.i64.wrap (l.kh*l.kw)=p:=Jf;have m2:IntKind.i64.wrap ((p-1)*z)=q:=Jg;rw[hk3]at l0;have HSq:Hid (∀k,Calls Tryz.prog 31 #[.slice aT t.length ct] (wj.drewN k) (fun e w'=>e=.returned (.int .i64 z)/\w'=wj.drewN k)):=fun k=>(HSzz.out _ (below_drewN HBj.out k)).mono fun _ _ h=>⟨h.1,h.2.symm⟩
     have HC:=hid hc;clear hp hq hc q5 q5b z3 hk3 hk5
     go_upto_region 9 with fail
     go_quiet ((go_at_call 31;exact Calls.quiet_of_same (HSq.out _)))
     exact TT
    ·exact Tg
  ·obtain rfl:j=L.length:=Ya;have HF:Hid (n=zfK L T):=EU;go_wp2
   refine Zr (v:=.int .i64 n) (by simp[results,Tryz.results32,go_sem]) rfl ⟨by rw[HF.out],HB.out⟩
theorem zfM.of{m:zgt}(h:(zab m).2.2=0):zfM m.layers (zab m).1:=by
 rcases zdd m with⟨_,k⟩|⟨hvm,⟨T,hch,hT⟩|⟨k,_⟩⟩
 ·rw[k]at h;simp at h
 ·rw[hT];have hl:=hch.1
  refine⟨hl,?_,fun j l s hj hs=>?_⟩
  ·unfold zbl at hvm;simp only[Zw,Zy]at hvm;exact hvm.2.1
  ·have ho:=hch.2 j s l hs hj;rw[ZaP]at ho;have h0:(zY m.input (T.take j) l).2=0:=by rw[ho]
   have hv:=zcy h0;rw[ho]at hv;have hz:1<=zJ s/\zJ s<=16384:=zao hv
   refine⟨Ya,Ya,fun hk=>?_⟩
   cases(zfz h0).1 with
   | pool q _ hq ht _ e1 e2 _ _ _ _ _=>
    have hb:=Win.len_bd hq ht;rw[q.one_len]at hb;rw[e1,e2];have h1:q.kh*q.kw<=262144:=Zl (Zag _ hq.c1) hb.2.1;have h2:1<=q.kh*q.kw:=Zaw hq.kh1 hq.kw1;rw[<- Zba];omega
   | dense R hk1=>omega
   | conv q O hk1=>omega
   | keep hk1=>omega
   | add hk1=>omega
 ·omega
def zil(v:Value):Bool:=match v with | .int .i64 _=>true | .slice _ _ _=>true | .func _ _ _=>true | .nilFunc=>true|_=>false
theorem zbt.zf32{w:World}{g o:Nat}{x:Int}(h:zbt zil w g):w.cell? ⟨g,o,none⟩≠some (.int .u32 x):=fun e=>by have:=h o _ e;cases this
theorem zbt.zfb{w:World}{g o:Nat}{x:Bool}(h:zbt zil w g):w.cell? ⟨g,o,none⟩≠some (.bool x):=fun e=>by have:=h o _ e;cases this
theorem zt.setZ{w:World}{g o:Nat}{u:Value}{a:Option Addr}{l:List Nat}(h:zt w a l)(hg:zbt zil w g):zt (w.setCell ⟨g,o,none⟩ u) a l:=by
 by_cases hl:l=[]
 ·exact I9
 obtain⟨b,off,rfl,hb,hc⟩:=h.open hl;have hp:=ZH.2 hl;have hf:b≠g:=fun e=>by subst e;exact hg.zf32 (hc 0 hp)
 refine⟨h.lim,h.len,h.row.imp id ?_⟩
 rintro⟨b',off',e,_,hcc⟩;cases e;exact⟨b,off,rfl,Kq,fun j d hj=>(zI YP).trans (hcc j d hj)⟩
theorem zbA.setZ{w:World}{g o:Nat}{u:Value}{p1 p2 p3:Value}{q:Rat}(h:zbA w p1 p2 p3 q)(hg:zbt zil w g):zbA (w.setCell ⟨g,o,none⟩ u) p1 p2 p3 q:=by
 obtain⟨an,ad,cn,cd,e1,e2,e3,l1,l2,u1,u2⟩:=h.ex;exact⟨an,ad,cn,cd,e1,e2,e3,l1,l2,u1.setZ hg,u2.setZ hg⟩
theorem zlj{w:World}{g o:Nat}{u:Value}{a:Option Addr}{L:List (Nat×Rat)}(h:z8 w a L)(hg:zbt zil w g):z8 (w.setCell ⟨g,o,none⟩ u) a L:=by
 refine⟨h.len,?_⟩
 rcases h.row with rfl|⟨b,off,rfl,hb,hc⟩
 ·exact .inl rfl
 ·by_cases hl:L=[]
  ·exact .inl hl
  ·have hp:=ZH.2 hl;obtain⟨p0,p1,p2,p3,h0,h1,_,_,rfl,h4⟩:=hc 0 L[0] (Zn hp);obtain⟨_,_,_,_,rfl,_⟩:=h4.ex;have hf:b≠g:=fun e=>by subst e;exact hg.zfb h1
   refine .inr ⟨b,off,rfl,Kq,fun j x hj=>?_⟩
   obtain⟨p0,p1,p2,p3,h0,h1,h2,h3,h4⟩:=hc j x hj;exact⟨p0,p1,p2,p3,(zI YP).trans h0,(zI YP).trans h1,(zI YP).trans h2,(zI YP).trans h3,h4.1,h4.2.setZ hg⟩
theorem zaG.setZ{w:World}{g o:Nat}{u:Value}{p0 p1 p2 p3:Value}{f:zl}(h:zaG w p0 p1 p2 p3 f)(hg:zbt zil w g):zaG (w.setCell ⟨g,o,none⟩ u) p0 p1 p2 p3 f:=by
 obtain⟨⟨a,c,e,hc,ht⟩,hr⟩:=h;exact⟨⟨a,c,e,hc,zlj ht hg⟩,hr.setZ hg⟩
theorem zbS{w:World}{g o:Nat}{u:Value}{a:Option Addr}{L:List zl}(h:zaN w a L)(hg:zbt zil w g):zaN (w.setCell ⟨g,o,none⟩ u) a L:=by
 refine⟨h.len,?_⟩
 rcases h.row with rfl|⟨b,off,rfl,hb,hc⟩
 ·exact .inl rfl
 ·by_cases hl:L=[]
  ·exact .inl hl
  ·have hp:=ZH.2 hl;obtain⟨p0,p1,p2,p3,h0,h1,_,_,_,h4⟩:=hc 0 L[0] (Zn hp);obtain⟨_,_,_,_,rfl,_⟩:=h4.ex;have hf:b≠g:=fun e=>by subst e;exact hg.zfb h1
   refine .inr ⟨b,off,rfl,Kq,fun j x hj=>?_⟩
   obtain⟨p0,p1,p2,p3,h0,h1,h2,h3,h4⟩:=hc j x hj;exact⟨p0,p1,p2,p3,(zI YP).trans h0,(zI YP).trans h1,(zI YP).trans h2,(zI YP).trans h3,h4.setZ hg⟩
theorem zci.setZ{w:World}{gG g o:Nat}{u:Value}{a:Option Addr}{L:List zl}(h:zci gG w a L)(hg:zbt zil w g)(hne:g≠gG):zci gG (w.setCell ⟨g,o,none⟩ u) a L:=
 ⟨zbS h.at' hg,h.fr.imp id fun hf p e=>(hf p e).set hne⟩
theorem LSt.setZ{gG n b o:Nat}{U:List zl}{w:World}{u:Value}(h:LSt w gG n U)(hf:Fre gG w b)(hb:zbt zil w b):LSt (w.setCell ⟨b,o,none⟩ u) gG n U:=by
 have hne:gG≠b:=fun e=>hf.ne e.symm
 obtain⟨g0,⟨a,c,h1,ho⟩,g2,g3,fz,lt⟩:=h;have k:∀q,(w.setCell ⟨b,o,none⟩ u).cell? ⟨gG,q,none⟩=w.cell? ⟨gG,q,none⟩:=fun q=>zI (by exact hne)
 have hub:∀g,(Value.slice a U.length c).ownBlock=some g->g≠b:=fun g e e2=>hf.nu Vj
 refine⟨(k 0).trans g0,⟨a,c,(k 1).trans h1,⟨?_,?_⟩⟩,(k 2).trans g2,fun q hq=>(k q).trans (g3 q hq),fun q=>by simp only[Zam];exact fz q,by simpa using lt⟩
 ·obtain⟨xs,hx,he⟩:=ho.ex
  refine⟨xs,⟨hx.1,?_⟩,fun j x hj=>?_⟩
  ·exact Er
  ·obtain⟨p0,p1,p2,p3,h0,h1',h2,h3,h4⟩:=he j x hj;exact⟨p0,p1,p2,p3,h0,h1',h2,h3,h4.setZ hb⟩
 exact Iq
structure zb1 (gG:Nat) (w:World) (base:Nat) (v:Value) (Y:List (List zl)):Prop where
 ex:∃xs,w.ownsRow base 28 1 v Y.length xs/\∀(j:Nat) (y:List zl),Y[j]? =some y->∃(a:Option Addr) (c:Nat),xs[j]? =some (.slice a y.length c)/\y.length<=c/\zci gG w a y
 al:zij isS w v
 fr:∀b,v.ownBlock=some b->Fre gG w b
theorem zb1.lt{gG:Nat}{w:World}{base:Nat}{v:Value}{Y:List (List zl)}(h:zb1 gG w base v Y){k:Nat}(hk:v.ownBlock=some k):base<=k/\k<w.heap.size:=by
 obtain⟨xs,ho,_⟩:=h.ex;exact ho.lt k hk
theorem zb1.nil(gG:Nat)(w:World)(base:Nat):zb1 gG w base (.slice none 0 0) []:=⟨⟨[],Zar _ _ _ _,Yd⟩,VR,fun b e=>VS⟩
theorem zb1.stp{gG n:Nat}{w w':World}{base:Nat}{v:Value}{Y:List (List zl)}{U:List zl}(h:zb1 gG w base v Y)(hL:LSt w gG n U)(hs:Stp gG w w'):zb1 gG w' base v Y:=by
 refine⟨?_,fun g e o x hx=>?_,fun b e=>(h.fr b e).stp hs⟩
 ·obtain⟨xs,ho,he⟩:=h.ex
  refine⟨xs,⟨ho.1,?_⟩,fun j y hj=>?_⟩
  ·exact E4
  ·obtain⟨a,c,k1,k2,k3⟩:=he j y hj;exact⟨a,c,k1,k2,k3.stp hL hs⟩
 ·rw[(h.fr g e).cell hs]at hx;exact h.al g e o x hx
theorem zb1.setZ{gG g o:Nat}{w:World}{base:Nat}{v:Value}{Y:List (List zl)}{u:Value}(h:zb1 gG w base v Y)(hg:zbt zil w g)(hne:g≠gG)(hb:g<base):zb1 gG (w.setCell ⟨g,o,none⟩ u) base v Y:=by
 have hbk:∀b,v.ownBlock=some b->b≠g:=fun b e=>by have:=(h.lt e).1;omega
 refine⟨?_,fun b e q x hx=>?_,fun b e=>(h.fr b e).set hne⟩
 ·obtain⟨xs,ho,he⟩:=h.ex
  refine⟨xs,⟨ho.1,?_⟩,fun j y hj=>?_⟩
  ·exact Em
  ·obtain⟨a,c,k1,k2,k3⟩:=he j y hj;exact⟨a,c,k1,k2,k3.setZ hg hne⟩
 ·rw[zI (by exact hbk b e)]at hx;exact h.al b e q x hx
theorem ziE{w w':World}{a:Option Addr}{L:List zl}{v:Value}(h:zaN w a L)(hg:w.grownBy w' v.ownBlock)(ha:zij isS w v):zaN w' a L:=by
 have hbs:zij zb5 w v:=fun g e o x hx=>by
  have:=ha g e o x hx;unfold isS at this
  split at this
  ·rfl
  ·cases this
 refine⟨h.len,?_⟩
 rcases h.row with rfl|⟨b,off,rfl,hb,hc⟩
 ·exact .inl rfl
 ·by_cases hl:L=[]
  ·exact .inl hl
  ·have hp:=ZH.2 hl;obtain⟨p0,p1,p2,p3,h0,h1,_,_,_,h4⟩:=hc 0 L[0] (Zn hp);obtain⟨_,_,_,_,rfl,_⟩:=h4.ex;have hne:some b≠v.ownBlock:=fun e=>by have:=ha b e.symm _ _ h1;cases this
   have hcell:∀o,w'.cell? ⟨b,o,none⟩=w.cell? ⟨b,o,none⟩:=fun o=>ZR (hg.block b hb hne)
   refine .inr ⟨b,off,rfl,Zd hb hg.size,fun j x hj=>?_⟩
   obtain⟨p0,p1,p2,p3,h0,h1,h2,h3,h4⟩:=hc j x hj;exact⟨p0,p1,p2,p3,(hcell _).trans h0,(hcell _).trans h1,(hcell _).trans h2,(hcell _).trans h3,zaR.grown h4 hg hbs⟩
theorem zij.sbs{w:World}{v:Value}(ha:zij isS w v):zij zb5 w v:=fun g e o x hx=>by
 have:=ha g e o x hx;unfold isS at this
 split at this
 ·rfl
 ·cases this
theorem zci.grownS{gG n:Nat}{w w':World}{a:Option Addr}{L U:List zl}{v:Value}(h:zci gG w a L)(hL:LSt w gG n U)(hg:w.grownBy w' v.ownBlock)(hf:∀b,v.ownBlock=some b->Fre gG w b)(ha:zij isS w v):zci gG w' a L:=by
 obtain⟨e,_⟩:=zdh hL hg hf;exact⟨ziE h.at' hg ha,h.fr.imp id fun hf' p hp=>⟨Zd (hf' p hp).lt hg.size,(hf' p hp).ne,by rw[e];exact(hf' p hp).nu⟩⟩
theorem Fre.grown{gG n b:Nat}{w w':World}{U:List zl}{v:Value}(h:Fre gG w b)(hL:LSt w gG n U)(hg:w.grownBy w' v.ownBlock)(hf:∀b,v.ownBlock=some b->Fre gG w b):Fre gG w' b:=by
 obtain⟨e,_⟩:=zdh hL hg hf;exact⟨Zd h.lt hg.size,h.ne,by rw[e];exact h.nu⟩
theorem zfC{P:Program}{w:World}{ops:Array Oper}{rest:List Oper}{o:Oper}{a:Act}{Q:Exit->Act->World->Prop}(hgd:o.guard=none)(s x:Operand)(t:TypeId)
 (ho:o.op=.call { callee:=.builtin .append,args:=#[s,x],argTypes:=#[t,t] })
 (gG nn base:Nat)(ht:P.underlying t=some (.slice 28))(hinfo:(P.info? 28).map (fun i=>(i.zero,i.size,i.bytes))=some (some (.slice none 0 0),1,24))
 (v:Value)(n:Nat)(Y:List (List zl))(U:List zl)(hn:Y.length=n)(hs:a.eval s=v)(hown:zb1 gG w base v Y)(hL:LSt w gG nn U)(y:List zl)(m:Nat)(hm:y.length=m)(aj:Option Addr)(cj:Nat)(hcj:m<=cj)(hy:zci gG w aj y)
 (g:Nat)(hg1:w.cell? ⟨g,0,none⟩=some (.slice aj m cj))
 (hx:a.eval x=.slice (some ⟨g,0,none⟩) 1 1)(hL':n+1<=2000000000000)(hbase:base<=w.heap.size)
 (h:∀b k w',zb1 gG w' base (.slice b (n+1) k) (Y++[y])->n+1<=k->w.grownBy w' v.ownBlock->wpList P ops Q rest (a.put o.dst (.slice b (n+1) k)) w'):
  wpList P ops Q (o::rest) a w:=by
 subst hn hm
 refine wpList_plain hgd fun K hK=>?_
 obtain⟨i,hi,hz,hsize,hby⟩:=info_parts hinfo;obtain⟨xs,hox,he⟩:=hown.ex;have hcells:∀(j:Nat) (u:Value),[Value.slice aj y.length cj][j]? =some u->w.cell? (Addr.add ⟨g,0,none⟩ j)=some u:=by
  intro j u hj;rw[Zav]
  match j,hj with
  | 0,hj=>rw[<- hj];exact hg1
 obtain⟨v',w',hr,r2,r3,r4,r5⟩:=zeh (P:=P) isS w base t o.type _ i _ 1 24 ht hi hz hsize hby VL Ya v Y.length xs hox ⟨g,0,none⟩ 1 1
  [.slice aj y.length cj] rfl hcells Kl Ya Yh Ya hbase
  hown.al Kl (by intro u hu;simp[Value.cells]at hu;subst hu;rfl)
 obtain⟨eu,_⟩:=zdh hL r3 hown.fr;have hO:zb1 gG w' base v' (Y++[y]):=by
  refine⟨⟨_,by simpa using r2,fun j z hj=>?_⟩,r5,fun b hb=>?_⟩
  ·by_cases hlt:j<Y.length
   ·rw[Zx hlt]at hj;obtain⟨bj,dj,q1,q2,q3⟩:=he j z hj;exact⟨bj,dj,by rw[Zx (by rw[hox.1];omega)];exact q1,q2,q3.grownS hL r3 hown.fr hown.al⟩
   ·have hlt':=(Zu.1 hj).1;simp only[ZB,ZJ,ZaK]at hlt';obtain rfl:j=Y.length:=Ya;have e2:z=y:=VN;subst e2;exact⟨aj,cj,by rw[ZG (by rw[hox.1];omega)];simp[hox.1],hcj,hy.grownS hL r3 hown.fr hown.al⟩
  ·rcases r4 with e2|⟨g',e2,hge⟩
   ·have hf:=hown.fr b (e2.symm.trans hb);exact hf.grown hL r3 hown.fr
   ·rw[e2]at hb;cases hb;have hlt:=r2.lt _ e2
    refine⟨hlt.2,by have:=hL.lt;omega,fun e3=>?_⟩
    rw[eu]at e3;have:=hL.ub_ge e3;omega
 obtain⟨b,k,e,hk⟩:=zlg r2;subst e;unfold Oper.wp execOp;simp only[ho,resolve,invoke,builtin,Sem.run_bind,Sem.run_pure,Result.andThen_ok,List.map_toArray,ZbB,List.map_nil,hs,hx,hr];exact hK _ _ (h b k w' hO hk r3)
def zda.cells(s:zda):Array Value:=#[.int .i64 s.kd,.int .i64 s.fr,.int .i64 s.ot,.int .i64 s.kh,.int .i64 s.kw,.int .i64 s.st,.int .i64 s.pd,.slice s.a1 s.n1 s.c1,.slice s.a2 s.n2 s.c2,.slice s.aS s.nS s.cS,.slice s.ax s.nx s.cx,.slice s.aT s.nT s.cT,s.fu]
def zda.fn(s:zda)(i:Nat):Value:=s.cells.getD i undef
theorem zaT.fn{W:World}{g:Nat}{s:zda}(h:zpL W g 13 s.fn):zaT W g s:=
 ⟨h.c 0 Ya,h.c 1 Ya,h.c 2 Ya,h.c 3 Ya,h.c 4 Ya,h.c 5 Ya,h.c 6 Ya,h.c 7 Ya,h.c 8 Ya,h.c 9 Ya,h.c 10 Ya,h.c 11 Ya,h.c 12 Ya,h.free,h.lt⟩
def zda.lay(s:zda)(l:zae)(b1:Option Addr)(d1:Nat)(b2:Option Addr)(d2:Nat):zda:=
 { s with kd:=l.kind,fr:=l.frm,ot:=l.out,kh:=l.kh,kw:=l.kw,st:=l.stride,pd:=l.pad,a1:=b1,n1:=l.weights.length,c1:=d1,a2:=b2,n2:=l.bias.length,c2:=d2 }
def zda.nums(s:zda)(a:Option Addr)(n c:Nat):zda:={ s with ax:=a,nx:=n,cx:=c }
def zda.shap(s:zda)(a:Option Addr)(n c:Nat):zda:={ s with aS:=a,nS:=n,cS:=c }
def zda.trc(s:zda)(a:Option Addr)(n c:Nat):zda:={ s with aT:=a,nT:=n,cT:=c }
def zda.fnc(s:zda)(v:Value):zda:={ s with fu:=v }
structure LwB (w1:World) (gG gL n:Nat) (wr:World) (f:Nat->Value) (U:List zl) (tr:Value) (Y:List (List zl)) (ax:Option Addr) (X:List zl):Prop where
 box:zpL wr gL 13 f
 ai:zbt zil wr gL
 fre:Fre gG wr gL
 un:LSt wr gG n U
 own:zb1 gG wr (gL+1) tr Y
 cur:zci gG wr ax X
 bl:Below gG w1 wr
 lt:gG<gL
section
variable {w1:World} {gG gL n:Nat} {wr w':World} {f f':Nat->Value} {U U':List zl} {tr tr':Value} {Y Y':List (List zl)} {ax ax':Option Addr} {X X':List zl}
theorem LwB.set(h:LwB w1 gG gL n wr f U tr Y ax X){i:Nat}(hi:i<13){u:Value}(hu:zil u=true):LwB w1 gG gL n (wr.setCell ⟨gL,i,none⟩ u) (zsx f i u) U tr Y ax X:=
 ⟨h.box.set hi u,h.ai.set i hu,h.fre.set h.fre.ne,h.un.setZ h.fre h.ai,h.own.setZ h.ai h.fre.ne (Zai _),h.cur.setZ h.ai h.fre.ne,h.bl.setCell (p:=⟨gL,i,none⟩) (Z6 h.lt) u,h.lt⟩
theorem LwB.stp(h:LwB w1 gG gL n wr f U tr Y ax X)(hs:Stp gG wr w')(hU:LSt w' gG n U'):LwB w1 gG gL n w' f U' tr Y ax X:=
 ⟨⟨fun i hi=>(h.fre.cell hs).trans (h.box.c i hi),fun i=>(h.fre.frozen hs).trans (h.box.free i),Zd h.box.lt hs.size⟩,fun o x e=>h.ai o x (by rw[h.fre.cell hs]at e;exact e),h.fre.stp hs,hU,h.own.stp h.un hs,h.cur.stp h.un hs,h.bl.trans (hs.below h.un),h.lt⟩
theorem LwB.below(h:LwB w1 gG gL n wr f U tr Y ax X)(hb:Below wr.heap.size wr w'):LwB w1 gG gL n w' f U tr Y ax X:=h.stp (Stp.of hb h.un.lt) (h.un.below hb)
theorem LwB.congr(h:LwB w1 gG gL n wr f U tr Y ax X)(e:∀i,i<13->f i=f' i):LwB w1 gG gL n wr f' U tr Y ax X:=⟨h.box.congr e,h.ai,h.fre,h.un,h.own,h.cur,h.bl,h.lt⟩
theorem LwB.cur'(h:LwB w1 gG gL n wr f U tr Y ax X)(hc:zci gG wr ax' X'):LwB w1 gG gL n wr f U tr Y ax' X':=⟨h.box,h.ai,h.fre,h.un,h.own,hc,h.bl,h.lt⟩
theorem LwB.own'(h:LwB w1 gG gL n wr f U tr Y ax X)(hc:zb1 gG wr (gL+1) tr' Y'):LwB w1 gG gL n wr f U tr' Y' ax X:=⟨h.box,h.ai,h.fre,h.un,hc,h.cur,h.bl,h.lt⟩
theorem LwB.app(h:LwB w1 gG gL n wr f U tr Y ax X)(ho:zb1 gG w' (gL+1) tr' Y')(hg:wr.grownBy w' tr.ownBlock):LwB w1 gG gL n w' f U tr' Y' ax X:=by
 have hne:some gL≠tr.ownBlock:=fun e=>by have:=(h.own.lt e.symm).1;omega
 have hb:w'.heap[gL]? =wr.heap[gL]? :=hg.block gL h.box.lt hne;have hc:∀o,w'.cell? ⟨gL,o,none⟩=wr.cell? ⟨gL,o,none⟩:=fun o=>ZR hb
 refine⟨⟨fun i hi=>(hc i).trans (h.box.c i hi),fun i=>(ZaI hb).trans (h.box.free i),Zd h.box.lt hg.size⟩,fun o x e=>h.ai o x (by rw[hc]at e;exact e),h.fre.grown h.un hg h.own.fr,h.un.grown hg h.own.fr h.own.al.sbs,ho,h.cur.grownS h.un hg h.own.fr h.own.al,?_,h.lt⟩
 exact h.bl.grown hg (Z6 h.un.lt) (fun k hk=>by have:=(h.own.lt hk).1;have:=h.lt;omega)
theorem LwB.lay{s:zda}(h:LwB w1 gG gL n wr s.fn U tr Y ax X)(l:zae)(b1:Option Addr)(d1:Nat)(b2:Option Addr)(d2:Nat):
  LwB w1 gG gL n (((((((((wr.setCell ⟨gL,0,none⟩ (.int .i64 l.kind)).setCell ⟨gL,1,none⟩ (.int .i64 l.frm)).setCell ⟨gL,2,none⟩ (.int .i64 l.out)).setCell ⟨gL,3,none⟩ (.int .i64 l.kh)).setCell ⟨gL,4,none⟩ (.int .i64 l.kw)).setCell ⟨gL,5,none⟩ (.int .i64 l.stride)).setCell ⟨gL,6,none⟩ (.int .i64 l.pad)).setCell ⟨gL,7,none⟩ (.slice b1 l.weights.length d1)).setCell ⟨gL,8,none⟩ (.slice b2 l.bias.length d2))
   (s.lay l b1 d1 b2 d2).fn U tr Y ax X:=by
 refine(((((((((h.set (i:=0) Ya rfl).set (i:=1) Ya rfl).set (i:=2) Ya rfl).set (i:=3) Ya rfl).set (i:=4) Ya rfl).set (i:=5) Ya rfl).set (i:=6) Ya rfl).set (i:=7) Ya rfl).set (i:=8) Ya rfl).congr ?_
 exact zkZ rfl rfl rfl rfl rfl rfl rfl rfl rfl rfl rfl rfl rfl
theorem LwB.nums{s:zda}(h:LwB w1 gG gL n wr s.fn U tr Y ax X)(a:Option Addr)(k c:Nat):LwB w1 gG gL n (wr.setCell ⟨gL,10,none⟩ (.slice a k c)) (s.nums a k c).fn U tr Y ax X:=
 (h.set (i:=10) Ya rfl).congr (zkZ rfl rfl rfl rfl rfl rfl rfl rfl rfl rfl rfl rfl rfl)
theorem LwB.shap{s:zda}(h:LwB w1 gG gL n wr s.fn U tr Y ax X)(a:Option Addr)(k c:Nat):LwB w1 gG gL n (wr.setCell ⟨gL,9,none⟩ (.slice a k c)) (s.shap a k c).fn U tr Y ax X:=
 (h.set (i:=9) Ya rfl).congr (zkZ rfl rfl rfl rfl rfl rfl rfl rfl rfl rfl rfl rfl rfl)
theorem LwB.trc{s:zda}(h:LwB w1 gG gL n wr s.fn U tr Y ax X)(a:Option Addr)(k c:Nat):LwB w1 gG gL n (wr.setCell ⟨gL,11,none⟩ (.slice a k c)) (s.trc a k c).fn U tr Y ax X:=
 (h.set (i:=11) Ya rfl).congr (zkZ rfl rfl rfl rfl rfl rfl rfl rfl rfl rfl rfl rfl rfl)
theorem LwB.fnc{s:zda}(h:LwB w1 gG gL n wr s.fn U tr Y ax X){v:Value}(hv:zil v=true):LwB w1 gG gL n (wr.setCell ⟨gL,12,none⟩ v) (s.fnc v).fn U tr Y ax X:=
 (h.set (i:=12) Ya hv).congr (zkZ rfl rfl rfl rfl rfl rfl rfl rfl rfl rfl rfl rfl rfl)
end
theorem LSt.make(w1:World)(n:Nat)(T:Nat):LSt (w1.alloc (.cells #[.int .i64 (n:Int),.slice none 0 0,.slice none 0 0] T)) w1.heap.size n []:=by
 refine⟨?_,⟨none,0,?_,zdC.nil _ _⟩,?_,fun o ho=>?_,fun o=>ZaZ _ _ _ _,Yd⟩
 ·rw[World.cell?_alloc_at _ _ _ _ rfl];rfl
 ·rw[World.cell?_alloc_at _ _ _ _ rfl];rfl
 ·rw[World.cell?_alloc_at _ _ _ _ rfl];rfl
 ·rw[World.cell?_alloc_at _ _ _ _ rfl];exact Array.getElem?_eq_none Y8
theorem LwB.make{w1 W:World}{gG n:Nat}(hL:LSt W gG n [])(hb:Below gG w1 W)(s:zda)(hs:zil s.fu=true)(T:Nat)(X:List zl)(hX:zci gG W s.ax X):LwB w1 gG W.heap.size n (W.alloc (.cells s.cells T)) s.fn [] (.slice none 0 0) [] s.ax X:=by
 have hal:=blA W (.cells s.cells T);have hc:∀o,(W.alloc (.cells s.cells T)).cell? ⟨W.heap.size,o,none⟩=s.cells[o]? :=fun o=>World.cell?_alloc_at _ _ _ _ rfl
 have hfr:=hL.fresh hal (Za _) Yd
 refine⟨⟨zkZ (hc 0) (hc 1) (hc 2) (hc 3) (hc 4) (hc 5) (hc 6) (hc 7) (hc 8) (hc 9) (hc 10) (hc 11) (hc 12),fun o=>ZaZ _ _ _ _,Yd⟩,zbt.of_heap (Za5 W _) ?_,hfr,hL.below hal,zb1.nil _ _ _,hX.stp hL (Stp.of hal hL.lt),hb.trans (hal.mono (Z6 hL.lt)),hL.lt⟩
 intro u hu;simp[zda.cells]at hu
 rcases hu with rfl|rfl|rfl|rfl|rfl|rfl|rfl|rfl|rfl|rfl|rfl|rfl|rfl<;>first|rfl|exact hs
structure zdx (w:World) (v:Value) (G:zdF):Prop where
 ex:∃aU cU aO cO,v=.agg #[.int .i64 (G.inputs:Int),.slice aU G.units.length cU,.slice aO G.outs.length cO]/\G.units.length<=cU/\G.outs.length<=cO/\zaN w aU G.units/\zaN w aO G.outs
theorem zdx.below{w w':World}{v:Value}{G:zdF}(h:zdx w v G)(hb:Below w.heap.size w w'):zdx w' v G:=by
 obtain⟨aU,cU,aO,cO,e,h1,h2,h3,h4⟩:=h.ex;exact⟨aU,cU,aO,cO,e,h1,h2,h3.below zaR hb,h4.below zaR hb⟩
def zfl(w:World)(R:zdF×Int)(e:Ending)(w':World):Prop:=∃v,e=.returned (.tuple #[v,.int .i64 R.2])/\zdx w' v R.1/\Below w.heap.size w w'
theorem zlI(w:World):zdx w (.agg #[.int .i64 0,.slice none 0 0,.slice none 0 0]) zei:=⟨none,0,none,0,rfl,Za _,Za _,ze8.nil _ _,ze8.nil _ _⟩
theorem zfL.setZ{gG g o:Nat}{w:World}{base:Nat}{v:Value}{L:List zl}{u:Value}(h:zfL gG w base v L)(hg:zbt zil w g)(hne:g≠gG)(hb:g<base):zfL gG (w.setCell ⟨g,o,none⟩ u) base v L:=by
 have hbk:∀b,v.ownBlock=some b->b≠g:=fun b e=>by have:=(h.own.lt e).1;omega
 refine⟨⟨?_,fun b e q x hx=>?_⟩,fun b e=>(h.fr b e).set hne⟩
 ·obtain⟨xs,ho,he⟩:=h.own.ex
  refine⟨xs,⟨ho.1,?_⟩,fun j y hj=>?_⟩
  ·exact Em
  ·obtain⟨p0,p1,p2,p3,h0,h1',h2,h3,h4⟩:=he j y hj;exact⟨p0,p1,p2,p3,h0,h1',h2,h3,h4.setZ hg⟩
 ·rw[zI (by exact hbk b e)]at hx;exact h.own.al b e q x hx
theorem zfL.app{gG n:Nat}{w w':World}{base:Nat}{v v':Value}{L U:List zl}{f:zl}(h:zfL gG w base v L)(hL:LSt w gG n U)(ho:zmK w' base v' (L++[f]))(hg:w.grownBy w' v.ownBlock)(hn:ziB w v v'):zfL gG w' base v' (L++[f]):=by
 obtain⟨e,_⟩:=zdh hL hg h.fr
 refine⟨ho,fun b hb=>?_⟩
 rcases hn with e2|⟨g,e2,hge⟩
 ·exact(h.fr b (e2.symm.trans hb)).grown hL hg h.fr
 ·rw[e2]at hb;cases hb
  refine⟨(ho.lt e2).2,by have:=hL.lt;omega,fun e3=>?_⟩
  rw[e]at e3;have:=hL.ub_ge e3;omega
theorem LwB.appX{w1:World}{gG gL n:Nat}{wr w':World}{f:Nat->Value}{U:List zl}{ax ax':Option Addr}{X L X':List zl}{v:Value}(h:LwB w1 gG gL n wr f U (.slice none 0 0) [] ax X)(ho:zfL gG wr (gL+1) v L)(hg:wr.grownBy w' v.ownBlock)(hc:zci gG w' ax' X'):
  LwB w1 gG gL n w' f U (.slice none 0 0) [] ax' X':=by
 have hne:some gL≠v.ownBlock:=fun e=>by have:=(ho.own.lt e.symm).1;omega
 have hb:w'.heap[gL]? =wr.heap[gL]? :=hg.block gL h.box.lt hne;have hcl:∀o,w'.cell? ⟨gL,o,none⟩=wr.cell? ⟨gL,o,none⟩:=fun o=>ZR hb
 exact⟨⟨fun i hi=>(hcl i).trans (h.box.c i hi),fun i=>(ZaI hb).trans (h.box.free i),Zd h.box.lt hg.size⟩,fun o x e=>h.ai o x (by rw[hcl]at e;exact e),h.fre.grown h.un hg ho.fr,h.un.grown hg ho.fr ho.own.al,zb1.nil _ _ _,hc,
  h.bl.grown hg (Z6 h.un.lt) (fun k hk=>by have:=(ho.own.lt hk).1;have:=h.lt;omega),h.lt⟩
theorem zb1.one{gG n base:Nat}{w:World}{U:List zl}{a:Option Addr}{y:List zl}{m c:Nat}(hL:LSt w gG n U)(hy:zci gG w a y)(hm:y.length=m)(hc:m<=c)(hb:base<=w.heap.size):
  zb1 gG (w.alloc (.cells #[.slice a m c] 28)) base (.slice (some ⟨w.heap.size,0,none⟩) 1 1) [y]:=by
 subst hm;have hal:=blA w (.cells #[.slice a y.length c] 28)
 refine⟨⟨[.slice a y.length c],⟨rfl,.inr ⟨w.heap.size,1,#[.slice a y.length c],rfl,hb,Za5 w _,Za _,Yb,rfl,rfl⟩⟩,fun j z hj=>?_⟩,fun g e=>?_,fun b e=>?_⟩
 ·match j,hj with
  | 0,hj=>
   cases hj;exact⟨a,c,rfl,hc,hy.stp hL (Stp.of hal hL.lt)⟩
 ·cases e;exact zbt.of_heap (Za5 w _) Kl
 ·cases e;exact hL.fresh hal (Za _) Yd
theorem zb1.at'{gG:Nat}{w:World}{base:Nat}{a:Option Addr}{n c:Nat}{Y:List (List zl)}(h:zb1 gG w base (.slice a n c) Y){j:Nat}{y:List zl}(hj:Y[j]? =some y):
  ∃(bT:Nat) (af:Option Addr) (cf:Nat),a=some ⟨bT,0,none⟩/\bT<w.heap.size/\w.cell? ⟨bT,0+j,none⟩=some (.slice af y.length cf)/\zci gG w af y:=by
 obtain⟨xs,ho,he⟩:=h.ex;obtain⟨af,cf,k1,k2,k3⟩:=he j y hj
 rcases ho.2 with⟨e,hn⟩|⟨g,cap,cur,e,hb,hg,hnc,hcm,hcs,htake⟩
 ·rw[ZA hn]at hj;simp at hj
 ·cases e;have k:=ho.cells (g:=g) rfl _ _ k1;simp only[Zav]at k;exact⟨g,af,cf,rfl,(ZF.1 hg).1,k,k3⟩
theorem ze8.src{α:Type}{P:World->Value->Value->Value->Value->α->Prop}{p:Value->Bool}(hP:zeO P p){w:World}{a:Option Addr}{L:List α}(h:ze8 P w a L):
  ∃news,zhM w a L.length 4 news/\(∀u∈news,p u=true)/\∀(j:Nat) (x:α),L[j]? =some x->∃p0 p1 p2 p3,news[j*4]? =some p0/\news[j*4+1]? =some p1/\news[j*4+2]? =some p2/\news[j*4+3]? =some p3/\P w p0 p1 p2 p3 x:=by
 rcases h.row with rfl|⟨b,off,rfl,hb,hc⟩
 ·exact⟨[],⟨rfl,Yd,fun hm=>by simp at hm⟩,Yd,Yd⟩
 ·have key:∀o,o<L.length*4->∃u,w.cell? ⟨b,off+o,none⟩=some u/\u.oneCell'=true/\p u=true:=by
   intro o ho;have hq:o/4<L.length:=Ya;obtain⟨p0,p1,p2,p3,h0,h1,h2,h3,h4⟩:=hc (o/4) L[o/4] (Zn hq);have hone:=hP.one h4;have hr:o=o/4*4∨o=o/4*4+1∨o=o/4*4+2∨o=o/4*4+3:=Ya
   rcases hr with e|e|e|e
   ·exact⟨p0,by rw[e];exact h0,hone p0 Yd⟩
   ·exact⟨p1,by rw[e];exact h1,hone p1 Yd⟩
   ·exact⟨p2,by rw[e];exact h2,hone p2 Yd⟩
   ·exact⟨p3,by rw[e];exact h3,hone p3 Yd⟩
  have hat:∀(j:Nat) (u:Value),((List.range (L.length*4)).map fun o=>(w.cell? ⟨b,off+o,none⟩).getD undef)[j]? =some u->j<L.length*4/\w.cell? ⟨b,off+j,none⟩=some u:=by
   intro j u hj;have hlt:=(Zu.1 hj).1;simp only[ZP,Zaj]at hlt;obtain⟨u',h1,_⟩:=key j hlt;rw[ZV,ZaS hlt]at hj;simp only[Option.map_some,h1,Option.getD_some,Zas]at hj;exact⟨hlt,by rw[h1,hj]⟩
  have hget:∀(o:Nat) (u:Value),o<L.length*4->w.cell? ⟨b,off+o,none⟩=some u->((List.range (L.length*4)).map fun o=>(w.cell? ⟨b,off+o,none⟩).getD undef)[o]? =some u:=by
   intro o u ho hu;rw[ZV,ZaS ho];simp[hu]
  refine⟨(List.range (L.length*4)).map fun o=>(w.cell? ⟨b,off+o,none⟩).getD undef,⟨Yd,fun u hu=>?_,fun _=>⟨b,off,rfl,hb,fun j u hj=>(hat j u hj).2⟩⟩,fun u hu=>?_,fun j x hj=>?_⟩
  ·obtain⟨j,hj⟩:=ZaY hu;obtain⟨hlt,hcl⟩:=hat j u hj;obtain⟨u',h1,h2,_⟩:=key j hlt;rw[h1]at hcl;cases hcl;exact h2
  ·obtain⟨j,hj⟩:=ZaY hu;obtain⟨hlt,hcl⟩:=hat j u hj;obtain⟨u',h1,_,h2⟩:=key j hlt;rw[h1]at hcl;cases hcl;exact h2
  ·have hlt:=(Zu.1 hj).1;obtain⟨p0,p1,p2,p3,h0,h1,h2,h3,h4⟩:=hc j x hj;exact⟨p0,p1,p2,p3,hget _ _ Ya h0,hget _ _ Ya h1,hget _ _ Ya h2,hget _ _ Ya h3,h4⟩
theorem zg4{w:World}{gG o:Nat}{u:Value}{a:Option Addr}{L:List zl}(h:zaN w a L)(hg:GBk w gG):zaN (w.setCell ⟨gG,o,none⟩ u) a L:=by
 refine⟨h.len,?_⟩
 rcases h.row with rfl|⟨b,off,rfl,hb,hc⟩
 ·exact .inl rfl
 ·by_cases hl:L=[]
  ·exact .inl hl
  ·have hp:=ZH.2 hl;obtain⟨p0,p1,p2,p3,h0,h1,_,_,_,h4⟩:=hc 0 L[0] (Zn hp);obtain⟨_,_,_,_,rfl,_⟩:=h4.ex;have hf:b≠gG:=by
    rintro rfl;obtain⟨⟨y,z0⟩,⟨a1,n1,c1,z1⟩,⟨a2,n2,c2,z2⟩,z3⟩:=hg;generalize off+0*4+1=q at h1
    match q,h1 with
    | 0,h1=>rw[z0]at h1;cases h1
    | 1,h1=>rw[z1]at h1;cases h1
    | 2,h1=>rw[z2]at h1;cases h1
    | q+3,h1=>rw[z3 (q+3) Ya]at h1;cases h1
   refine .inr ⟨b,off,rfl,Kq,fun j x hj=>?_⟩
   obtain⟨p0,p1,p2,p3,h0,h1,h2,h3,h4⟩:=hc j x hj;exact⟨p0,p1,p2,p3,(zI YP).trans h0,(zI YP).trans h1,(zI YP).trans h2,(zI YP).trans h3,h4.gset hg⟩
structure LwQ (n:Nat) (input:List Int) (S:List (List Int)) (U:List zl) (Y:List (List zl)) (D B N:Nat):Prop where
 lo:∃(x:List Rat) (YQ:List (List Rat)),x.length=n/\zk8 x input S U Y YQ
 hD:0<D
 hB:1<=B
 b0:zcf D B N (zu n)
 bY:∀y∈Y,zcf D B N y
theorem LwQ.start{n N:Nat}{input:List Int}(h:(n:Int)=zJ input)(hN:n<=N):LwQ n input [] [] [] 1 1 N:=by
 refine⟨⟨List.replicate n 0,[],Yd,zk8.start VJ⟩,Ya,Ya,fun f hf=>?_,Yd⟩
 obtain⟨v,hv,rfl⟩:=ZX.1 hf;have:=Z5.1 hv;exact BdF.var Ya Ya Ya
theorem LwQ.len{n:Nat}{input:List Int}{S:List (List Int)}{U:List zl}{Y:List (List zl)}{D B N:Nat}(h:LwQ n input S U Y D B N):S.length=Y.length:=by
 obtain⟨x,YQ,_,hl⟩:=h.lo;have:=congrArg List.length hl.ev;rw[ZP]at this;rw[hl.len,<- this]
theorem LwQ.size{n:Nat}{input:List Int}{S:List (List Int)}{U:List zl}{Y:List (List zl)}{D B N:Nat}(h:LwQ n input S U Y D B N){j:Nat}{s:List Int}{y:List zl}(hs:S[j]? =some s)(hy:Y[j]? =some y):(y.length:Int)=zJ s:=by
 obtain⟨x,YQ,_,hl⟩:=h.lo;have hq:YQ[j]? =some (y.map (zW (zar x U))):=by rw[<- hl.ev,ZV,hy];rfl
 have:=hl.size j s _ hs hq
 rwa [ZP]at this
theorem LwQ.vars{n:Nat}{input:List Int}{S:List (List Int)}{U:List zl}{Y:List (List zl)}{D B N:Nat}(h:LwQ n input S U Y D B N):((zu n).length:Int)=zJ input:=by
 obtain⟨x,YQ,rfl,hl⟩:=h.lo;rw[<- hl.x0];simp[zu]
theorem LwQ.curr{n:Nat}{input:List Int}{S:List (List Int)}{U:List zl}{Y:List (List zl)}{D B N:Nat}(h:LwQ n input S U Y D B N):((zaF (zu n) Y).length:Int)=zJ (zk input S)/\zcf D B N (zaF (zu n) Y):=by
 unfold zaF zk;rw[ZaE,ZaE,h.len]
 cases hy:Y[Y.length-1]? with
 | none=>
  have hs:S[Y.length-1]? =none:=by
   rw[List.getElem?_eq_none_iff]at hy⊢;have:=h.len;omega
  rw[hs];exact⟨h.vars,h.b0⟩
 | some y=>
  have hlt:=(Zu.1 hy).1;have hls:Y.length-1<S.length:=by rw[h.len];exact hlt
  have hs:S[Y.length-1]? =some (S[Y.length-1]'hls):=Zn hls;rw[hs];exact⟨h.size hs hy,h.bY y (Zt hy)⟩
theorem LwQ.frm{n:Nat}{input:List Int}{S:List (List Int)}{U:List zl}{Y:List (List zl)}{D B N:Nat}(h:LwQ n input S U Y D B N)(f:Int):zcf D B N (zbs (zu n) Y f):=by
 unfold zbs
 split
 ·rw[Zf]
  cases hy:Y[f.toNat]? with
  | none=>exact zcf.nil _ _ _
  | some y=>exact h.bY y (Zt hy)
 ·exact h.b0
theorem LwQ.flen{n:Nat}{input:List Int}{S:List (List Int)}{U:List zl}{Y:List (List zl)}{D B N:Nat}(h:LwQ n input S U Y D B N){f:Int}(h1: -1<=f)(h2:f<S.length)(h3:(if 0<=f then S.getD f.toNat []else input)=zk input S):
  (zbs (zu n) Y f).length=(zaF (zu n) Y).length/\∃fr1:Nat,f+1=(fr1:Int)/\fr1<Y.length+1/\(zu n::Y)[fr1]? =some (zbs (zu n) Y f):=by
 have hc:=h.curr.1;have hl:=h.len;rw[<- h3]at hc;unfold zbs
 by_cases h0:0<=f
 ·rw[Zq h0]at hc⊢;have hlt2:f.toNat<Y.length:=Ya;have hlt1:f.toNat<S.length:=Ya
  refine⟨?_,f.toNat+1,Ya,Ya,?_⟩
  ·rw[Zf,Zn hlt2];rw[Zf,Zn hlt1]at hc;have:=h.size (Zn hlt1) (Zn hlt2);simp only[Option.getD_some]at hc⊢;omega
  ·rw[Zb,Zf,Zn hlt2];rfl
 ·rw[Zh h0]at hc⊢
  refine⟨?_,0,Ya,Ya,rfl⟩
  have:=h.vars;omega
theorem LwQ.step{n:Nat}{input:List Int}{S:List (List Int)}{U:List zl}{Y:List (List zl)}{D B N:Nat}{l:zae}(h:LwQ n input S U Y D B N)(hl:(zY input S l).2=0)(hs:zdM l)(hv:zm (zk input S)=true)
 (hN:n+(zam n U l (zk input S) (zaF (zu n) Y) (zbs (zu n) Y l.frm)).1.length<=N):
  ∃k,0<k/\k<=WQ/\LwQ n input (S++[(zY input S l).1]) (zam n U l (zk input S) (zaF (zu n) Y) (zbs (zu n) Y l.frm)).1 (Y++[(zam n U l (zk input S) (zaF (zu n) Y) (zbs (zu n) Y l.frm)).2]) (D*k) (9671406556917033397649408*B) N:=by
 obtain⟨hc,hcb⟩:=h.curr;have hsz:=(zao hv).2;obtain⟨k,k1,k2,k3⟩:=znz (nI:=n) (U:=U) (zfz hl).1 hc Ya hcb (h.frm l.frm) h.hD h.hB hs hN;have hB:=h.hB
 refine⟨k,k1,k2,?_,Zaw h.hD k1,Ya,(h.b0.bump k1).mono Ya (Za _),?_⟩
 ·obtain⟨x,YQ,rfl,hL⟩:=h.lo;exact⟨x,_,rfl,hL.step hl⟩
 ·intro y hy
  rcases Zay.1 hy with hy|hy
  ·exact((h.bY y hy).bump k1).mono Ya (Za _)
  ·rw[List.mem_singleton]at hy;rw[hy];exact k3
theorem zis{n:Nat}{input:List Int}{T:List (List Int)}{L:List zae}(h:(n:Int)=zJ input)(hc:zi0 input [] T L):((zav n input (zu n) [] [] [] L).1.length:Int)=zfK L T:=by
 have hl:(List.replicate n (0:Rat)).length=n:=Yd;have:=znh (zk8.start (x:=List.replicate n 0) VJ) hc;rw[hl]at this
 simpa using this
theorem zkg:zgw 12 1 1:=zkG (n:=0) (u:=0) Yb Yb Ya
structure zik (gG n:Nat) (W1:World) (U:List zl) (L:List Su) (p:Nat) (dp:List (Nat×Nat)) (x0:Value) (Post:Value->World->Prop) (d:Nat->Bool) (g:Nat->Value) (W:World):Prop where
 cl:∀q∈dp,d q.1=true->d q.2=true
 z0:d 0=true->g 0=x0
 st:(d p=false/\zeb gG n W1 U U 99 L d g W)∨(d p=true/\(∀i,0<i->i<p->d i=true)/\Post (g p) W)
section
variable {gG n:Nat} {W1:World} {U:List zl} {L:List Su} {p:Nat} {dp:List (Nat×Nat)} {x0:Value} {Post:Value->World->Prop} {d:Nat->Bool} {g:Nat->Value} {W W':World}
theorem zik.start(h:LSt W1 gG n U)(g:Nat->Value):zik gG n W1 U L p dp x0 Post (fun _=>false) g W1.drew:=⟨(fun _ _ h=>YG),(fun h=>YG),.inl ⟨rfl,zeb.start h g⟩⟩
theorem zgo(hc:∀q∈dp,d q.1=true->d q.2=true){i:Nat}(hd:∀q∈dp,q.1=i->d q.2=true):∀q∈dp,zdB d i q.1=true->zdB d i q.2=true:=by
 intro q hq h;have hup:d q.2=true->zdB d i q.2=true:=fun h=>by unfold zdB;split<;>first|rfl|exact h
 by_cases e:q.1=i
 ·exact hup (hd q hq e)
 ·rw[zas e]at h;exact hup (hc q hq h)
theorem zik.one(hV:zik gG n W1 U L p dp x0 Post d g W){i:Nat}{v:Value}(hi:p≠i)(hdeps:∀q∈dp,q.1=i->d q.2=true)(hx:i=0->v=x0)(hp:d p=false)(h:zeb gG n W1 U U 99 L (zdB d i) (upd g i v) W'):zik gG n W1 U L p dp x0 Post (zdB d i) (upd g i v) W':=by
 refine⟨zgo hV.cl hdeps,fun h0=>?_,.inl ⟨by rw[zas hi];exact hp,h⟩⟩
 exact EL
theorem zik.late(hV:zik gG n W1 U L p dp x0 Post d g W)(hp0:p≠0)(hdeps:∀q∈dp,q.1≠0)(hp:d p=true)(ha:∀i,0<i->i<p->d i=true)(hP:Post (g p) W):zik gG n W1 U L p dp x0 Post (zdB d 0) (upd g 0 x0) W:=by
 refine⟨zgo hV.cl (fun q hq e=>absurd e (hdeps q hq)),fun _=>JJ,.inr ⟨by rw[zas hp0];exact hp,fun i h1 h2=>Xg,?_⟩⟩
 unfold upd;rw[Zh hp0];exact hP
theorem zik.app(hV:zik gG n W1 U L p dp x0 Post d g W){v:Value}(hp0:p≠0)(ha:∀i,0<i->i<p->d i=true)(hdeps:∀q∈dp,q.1≠p)(hP:Post v W'):zik gG n W1 U L p dp x0 Post (zdB d p) (upd g p v) W':=TW
end
theorem zi4{w:World}{base:Nat}{a:Option Addr}{n c:Nat}{L:List zl}{xs:List Value}(ho:w.ownsRow base 53 4 (.slice a n c) n xs)(hn:L.length=n)(he:∀(j:Nat) (x:zl),L[j]? =some x->∃p0 p1 p2 p3,xs[j*4]? =some p0/\xs[j*4+1]? =some p1/\xs[j*4+2]? =some p2/\xs[j*4+3]? =some p3/\zaG w p0 p1 p2 p3 x)(hl:L.length<=9223372036854775807):zaN w a L:=On
theorem zja{X w':World}{gG n g c:Nat}{U L:List zl}{b:Option Addr}(hL:LSt X gG n U)(hU:U.length<=9223372036854775807)(hb:Below X.heap.size X w')(hO:zaN w' b L)(hc:L.length<=c)(hz:zbt zil w' g)(hne:g≠gG):
  ∃aU cU,(w'.setCell ⟨gG,2,none⟩ (.slice b L.length c)).cell? ⟨gG,0,none⟩=some (.int .i64 (n:Int))/\(w'.setCell ⟨gG,2,none⟩ (.slice b L.length c)).cell? ⟨gG,1,none⟩=some (.slice aU U.length cU)/\(w'.setCell ⟨gG,2,none⟩ (.slice b L.length c)).cell? ⟨gG,2,none⟩=some (.slice b L.length c)/\
   zdx ((((w'.setCell ⟨gG,2,none⟩ (.slice b L.length c)).setCell ⟨g,0,none⟩ (.int .i64 (n:Int))).setCell ⟨g,1,none⟩ (.slice aU U.length cU)).setCell ⟨g,2,none⟩ (.slice b L.length c)) (.agg #[.int .i64 (n:Int),.slice aU U.length cU,.slice b L.length c]) ⟨n,U,L⟩:=by
 have hL':=hL.below hb;obtain⟨aU,cU,h1,ho⟩:=hL'.g1;have hcU:U.length<=cU:=by
  obtain⟨a',c',e,hc⟩:=ho.form;cases e;exact hc
 have hz2:zbt zil (w'.setCell ⟨gG,2,none⟩ (.slice b L.length c)) g:=fun o x e=>hz o x (by rw[zI (by exact hne)]at e;exact e)
 have f1:=zg4 (o:=2) (u:=.slice b L.length c) (ho.read hU) hL'.blk;have f2:=zg4 (o:=2) (u:=.slice b L.length c) hO hL'.blk;have hz3:=hz2.set 0 (v:=.int .i64 (n:Int)) rfl;have hz4:=hz3.set 1 (v:=.slice aU U.length cU) rfl
 refine⟨aU,cU,(ZC _ _ _ _ (fun e=>VS)).trans hL'.g0,(ZC _ _ _ _ (fun e=>VS)).trans h1,ZU _ _ _ hL'.g2,aU,cU,b,c,rfl,hcU,hc,?_,?_⟩
 ·exact zbS (zbS (zbS f1 hz2) hz3) hz4
 ·exact zbS (zbS (zbS f2 hz2) hz3) hz4
structure LwK (w2:World) (S:zda) (sh:List Int) (nx j gG:Nat):Prop where
 nS:sh.length=S.nS
 sh:z9 w2 Any S.aS sh
 nx:nx=S.nx
 cx:S.nx<=S.cx
 nT:S.nT=j+1
 fu:S.fu=zkX gG
theorem zik.on{gG n:Nat}{W1 W W':World}{U:List zl}{L:List Su}{p i:Nat}{dp:List (Nat×Nat)}{x0 v:Value}{Post:Value->World->Prop}{d:Nat->Bool}{g:Nat->Value}(hV:zik gG n W1 U L p dp x0 Post d g W)(hd:∀q∈dp,q.1=i->d q.2=true)(hp:d p=false)(h:zeb gG n W1 U U 99 L (zdB d i) (upd g i v) W')(hi:p≠i:=by decide)(hx:i=0->v=x0:=by first|(intro _;rfl)|(intro e;cases e)):zik gG n W1 U L p dp x0 Post (zdB d i) (upd g i v) W':=hV.one hi hd hx hp h
