/-
  Contracts of the functions that the statement reaches: RgA, RgB, RgC, RgD, RgE.
-/
import Derived.Test.YtfgmmghmmfmdgaaGreatK46
set_option linter.all false
set_option maxRecDepth 100000
set_option maxHeartbeats 3200000
namespace Go.Proofs.YtfgmmghmmfmdgaaGreat
open Go.RowKit
open Go.Lib (hid)
theorem r16Var (w:World) (v:Nat):Calls Tryz.prog 22 #[.int .i64 (v:Int)] w (RetAf w (varA v)):=by
 obtain ⟨HX,HB⟩:=hd2 (ABox.alloc (zer_form w) 53) ((Below.refl w.heap.size w).alloc (Nat.le_refl _) (.cells #[.slice none 0 0,.bool false,.slice none 0 0,.slice none 0 0] 53))
 go_enter Tryz.func22,Tryz.ntmps22
 go_upto_region 1 with fail
 generalize w.alloc (.cells #[.slice none 0 0,.bool false,.slice none 0 0,.slice none 0 0] 53)=W at *;have HO:=hid (r3Of W 1 (by decide) (by decide))
 go_wp2_with fail
 refine HO.out.mono ?_
 rintro e w1 ⟨v1,rfl,hv,hb⟩;have hv':RatV w1 v1 (ratL 1):=hv;obtain ⟨p1,p2,p3,rfl,hrc⟩:=RatC.of hv';obtain ⟨HRC,HX1⟩:=hd2 hrc (HX.out.below hb);have HB1:=htr HB hb;obtain ⟨an,ad,cn,cd,rfl,rfl,rfl,l1,l2,u1,u2⟩:=hrc.ex;clear hv hv' hb HO u1 u2 hrc;obtain ⟨HX2,HB2,HF2⟩:=hd3 (HX1.out.below ((Below.refl w1.heap.size w1).alloc (Nat.le_refl _) (.cells #[.int .i64 (v:Int),.bool (ratL 1).neg,.slice an (ratL 1).num.length cn,.slice ad (ratL 1).den.length cd] 84))) (HB1.out.trans (((Below.refl w1.heap.size w1).alloc (Nat.le_refl _) (.cells #[.int .i64 (v:Int),.bool (ratL 1).neg,.slice an (ratL 1).num.length cn,.slice ad (ratL 1).den.length cd] 84)).mono HB1.out.size)) (var_form (v:=v) (an:=an) (ad:=ad) (cn:=cn) (cd:=cd) (w:=w1.alloc (.cells #[.int .i64 (v:Int),.bool (ratL 1).neg,.slice an (ratL 1).num.length cn,.slice ad (ratL 1).den.length cd] 84)) (b:=some ⟨w1.heap.size,0,none⟩) rfl (by simp) (by rw [World.cell?_alloc_at _ _ _ _ rfl];rfl) (by rw [World.cell?_alloc_at _ _ _ _ rfl];rfl) (by rw [World.cell?_alloc_at _ _ _ _ rfl];rfl) (by rw [World.cell?_alloc_at _ _ _ _ rfl];rfl) (HRC.out.below ((Below.refl _ _).alloc (Nat.le_refl _) _)));obtain ⟨w2,hw2⟩:∃ w2,w2=w1.alloc (.cells #[.int .i64 (v:Int),.bool (ratL 1).neg,.slice an (ratL 1).num.length cn,.slice ad (ratL 1).den.length cd] 84):=⟨_,rfl⟩
 rw [<- hw2] at HX2 HB2 HF2;obtain ⟨r0,r1,r2,r3,rf,rlt⟩:=HX2.out.bx;have HO:=hid (HF2.out.val.ret HX2.out.al HB2.out (Nat.le_refl _));obtain ⟨x0,x1,x2,x3,xf,xlt⟩:=HX1.out.bx;generalize varA v=R at *;rw [hw2,store4_alloc xlt] at HO;clear HF2 HRC HX1 HX2 r0 r1 r2 r3 rf rlt;go_wp2;exact bodyPost_ret (by simp [results,Tryz.results22,go_sem,x0,x1,x2,x3,xlt,Nat.ne_of_lt xlt]) rfl HO.out
def eqA (f g:AffQ):Bool:=decide (f.ts=g.ts/\f.c=g.c)
theorem eqA_iff (f g:AffQ):eqA f g=true ↔ f=g:=by
 unfold eqA;rw [decide_eq_true_eq]
 constructor
 ·rintro ⟨h1,h2⟩;cases f;cases g;simp only at h1 h2;subst h1 h2;rfl
 ·rintro rfl;exact ⟨rfl,rfl⟩
theorem r7Equal {w:World} {v u:Value} {f g:AffQ} (hf:FormV w v f) (hg:FormV w u g):
  Calls Tryz.prog 21 #[v,u] w fun e w'=>e=.returned (.bool (eqA f g))/\Below w.heap.size w w':=by
 obtain ⟨a,c,an,ad,cn,cd,rfl,hc,ht,l1,l2,u1,u2⟩:=hf.parts;obtain ⟨b,d,bn,bd,dn,dd,rfl,hd,hs,m1,m2,v1,v2⟩:=hg.parts;have q1:=ht.len;have q2:=hs.len;obtain ⟨HT,HS⟩:=hd2 ht hs;have HCf:Hid (RatV w (.agg #[.bool (ratL f.c).neg,.slice an (ratL f.c).num.length cn,.slice ad (ratL f.c).den.length cd]) (ratL f.c)):=⟨an,ad,cn,cd,rfl,l1,l2,u1,u2⟩
 have HCg:Hid (RatV w (.agg #[.bool (ratL g.c).neg,.slice bn (ratL g.c).num.length dn,.slice bd (ratL g.c).den.length dd]) (ratL g.c)):=⟨bn,bd,dn,dd,rfl,m1,m2,v1,v2⟩
 obtain ⟨RR,hRR⟩:∃ RR,RR=eqA f g:=⟨_,rfl⟩
 have HRR:=hid hRR;rw [<- hRR];have x1:=Box4.alloc w (.slice a f.ts.length c) (.bool (ratL f.c).neg) (.slice an (ratL f.c).num.length cn) (.slice ad (ratL f.c).den.length cd) 53;have b1:=blA w (.cells #[.slice a f.ts.length c,.bool (ratL f.c).neg,.slice an (ratL f.c).num.length cn,.slice ad (ratL f.c).den.length cd] 53);have s1:(w.alloc (.cells #[.slice a f.ts.length c,.bool (ratL f.c).neg,.slice an (ratL f.c).num.length cn,.slice ad (ratL f.c).den.length cd] 53)).heap.size=w.heap.size+1:=by simp
 obtain ⟨HX1,HB1,HS1⟩:=hd3 x1 b1 s1;clear x1 b1 s1 hRR ht hs l1 l2 u1 u2 m1 m2 v1 v2 hf hg
 go_enter Tryz.func21,Tryz.ntmps21
 go_upto_region 1 with fail
 generalize w.alloc (.cells #[.slice a f.ts.length c,.bool (ratL f.c).neg,.slice an (ratL f.c).num.length cn,.slice ad (ratL f.c).den.length cd] 53)=W1 at *;have x2:=Box4.alloc W1 (.slice b g.ts.length d) (.bool (ratL g.c).neg) (.slice bn (ratL g.c).num.length dn) (.slice bd (ratL g.c).den.length dd) 53;have b2:=blA W1 (.cells #[.slice b g.ts.length d,.bool (ratL g.c).neg,.slice bn (ratL g.c).num.length dn,.slice bd (ratL g.c).den.length dd] 53);rw [HS1.out] at x2;obtain ⟨HX1',HX2⟩:=hd2 (HX1.out.below b2) x2;have HB2:=htr HB1 b2;clear HX1 HB1 x2 b2;generalize W1.alloc (.cells #[.slice b g.ts.length d,.bool (ratL g.c).neg,.slice bn (ratL g.c).num.length dn,.slice bd (ratL g.c).den.length dd] 53)=W2 at *;obtain ⟨x0,x1,x2,x3,xf,xlt⟩:=HX1'.out;obtain ⟨y0,y1,y2,y3,yf,ylt⟩:=HX2.out
 by_cases hl:f.ts.length=g.ts.length
 case neg=>
  have hne:eqA f g=false:=by
   rw [<- Bool.not_eq_true,eqA_iff];intro e;exact hl (by rw [e])
  have t1:((f.ts.length:Int) != (g.ts.length:Int))=true:=by rw [bne_iff_ne];omega
  have t2:decide (¬ (f.ts.length:Int)=(g.ts.length:Int))=true:=by simp;omega
  have HNe:=hid hne;clear hne hl;go_wp2;go_ret;exact ⟨ret_bool (HRR.out.trans HNe.out).symm,HB2.out⟩
 have t1:((f.ts.length:Int) != (g.ts.length:Int))=false:=by rw [hl];simp
 have t2:decide (¬ (f.ts.length:Int)=(g.ts.length:Int))=false:=by simp;omega
 obtain ⟨HSm,HL⟩:=hd2 (r3Same (HCf.out.below HB2.out) (HCg.out.below HB2.out)) hl;clear hl
 by_cases hcc:f.c=g.c
 case neg=>
  have hsm:decide (ratL f.c=ratL g.c)=false:=decide_eq_false fun e=>hcc (by have h:=congrArg ratOf e;rwa [ratOf_ratL,ratOf_ratL] at h)
  rw [hsm] at HSm;have hne:eqA f g=false:=by
   rw [<- Bool.not_eq_true,eqA_iff];intro e;exact hcc (by rw [e])
  have HNe:=hid hne;clear hsm hne hcc
  go_wp2_with fail
  refine HSm.out.mono ?_
  rintro e w3 ⟨rfl,hb3⟩;have HB3:=htr HB2 hb3;clear hb3;go_wp2;go_ret;exact ⟨ret_bool (HRR.out.trans HNe.out).symm,HB3.out⟩
 have hsm:decide (ratL f.c=ratL g.c)=true:=decide_eq_true (by rw [hcc]);rw [hsm] at HSm;have HCc:=hid hcc;clear hsm hcc
 go_wp2_with fail
 refine HSm.out.mono ?_
 rintro e w3 ⟨rfl,hb3⟩;have HB3:=htr HB2 hb3;obtain ⟨HX3,HY3⟩:=hd2 (HX1'.out.below hb3) (HX2.out.below hb3);clear hb3 HSm x0 x1 x2 x3 xf xlt y0 y1 y2 y3 yf ylt t1 t2 HX1' HX2;go_wp2
 go_loopw [5] (fun i wr=>∃ j:Nat,j<=f.ts.length/\i=.int .i64 (j:Int)/\Hid (f.ts.take j=g.ts.take j)/\Hid (Below w3.heap.size w3 wr)) (fun i _=>f.ts.length - (intOf i).toNat)
 case atStart=>exact ⟨0,Nat.zero_le _,rfl,by simp [Hid],Below.refl _ _⟩
 case round=>
  obtain ⟨j,hj,rfl,HTk,HB⟩:=hrel;have HBw:=htr HB3 HB.out;have x0:=(HX3.out.below HB.out).c0;have xlt:=(HX3.out.below HB.out).lt;have y0:=(HY3.out.below HB.out).c0;have ylt:=(HY3.out.below HB.out).lt
  by_cases hlt:j < f.ts.length
  ·have hltm:j < g.ts.length:=by have:=HL.out;omega
   obtain ⟨b1,o1,⟨u,p⟩,p0,p1,p2,p3,ha1,hb1,hx,e0,e1,e2,e3,rfl,hrc⟩:=(HT.out.below termK HBw.out).pick hlt;obtain ⟨b2,o2,⟨v,q⟩,q0,q1',q2',q3,ha2,hb2,hy,g0,g1,g2,g3,rfl,hrd⟩:=(HS.out.below termK HBw.out).pick hltm;simp only at e0 g0 hrc hrd;obtain ⟨HXx,HYy,TA,TB⟩:=hd4 hx hy (take_succ_at hx) (take_succ_at hy);have HV1:=hrc.val;have HV2:=hrd.val;obtain ⟨an',ad',cn',cd',rfl,rfl,rfl,_⟩:=hrc.ex;obtain ⟨bn',bd',dn',dd',rfl,rfl,rfl,_⟩:=hrd.ex;have HC:Hid (∀ e,Calls Tryz.prog 24 #[.agg #[.bool (ratL p).neg,.slice an' (ratL p).num.length cn',.slice ad' (ratL p).den.length cd'],.agg #[.bool (ratL q).neg,.slice bn' (ratL q).num.length dn',.slice bd' (ratL q).den.length dd']] (ext wr e) fun e1 w'=>e1=.returned (.bool (decide (ratL p=ratL q)))/\Below (ext wr e).heap.size (ext wr e) w'):=fun e=>
    r3Same (HV1.below (ext_below wr e)) (HV2.below (ext_below wr e))
   have k0:=ext_cell x0 xlt;have k1:=ext_cell y0 ylt;have f0:=ext_cell e0 hb1;have f1:=ext_cell e1 hb1;have f2:=ext_cell e2 hb1;have f3:=ext_cell e3 hb1;have h0:=ext_cell g0 hb2;have h1:=ext_cell g1 hb2;have h2:=ext_cell g2 hb2;have h3:=ext_cell g3 hb2;subst ha1 ha2;clear hx hy HV1 HV2 hrc hrd
   by_cases huv:u=v
   ·have hs1:((u:Int) != (v:Int))=false:=by rw [huv];simp
    have HUV:=hid huv;clear huv
    by_cases hpq:p=q
    ·have hs2:decide (ratL p=ratL q)=true:=decide_eq_true (by rw [hpq]);rw [hs2] at HC;have HPQ:=hid hpq;clear hs2 hpq
     go_upto_region 6 with fail
     refine wp_region_quiet_ext (by kernel_rfl) (by kernel_rfl) ?_
     repeat (go_big_quiet_step (first | (go_at_call 24;exact Calls.ext_of (HC.out _))))
     refine wpQuiet_nil ?_
     intro _ hw';obtain ⟨nq,hw''⟩:=hw';subst hw'';have HBN:=hid (HB.out.trans ((ext_below wr nq).mono HB.out.size));generalize ext wr nq=w5 at *;go_wp2;go_roundw
     case rel=>exact ⟨j+1,hlt,by go_num,by unfold Hid;rw [TA.out,TB.out,HTk.out,HUV.out,HPQ.out],HBN.out⟩
     case measure=>simp [intOf];omega
    ·have hs2:decide (ratL p=ratL q)=false:=decide_eq_false fun e=>hpq (by have h:=congrArg ratOf e;rwa [ratOf_ratL,ratOf_ratL] at h)
     rw [hs2] at HC;have hne:Hid (RR=false):=by
      unfold Hid;rw [HRR.out, <- Bool.not_eq_true,eqA_iff];rintro rfl;have h1:=HXx.out.symm.trans HYy.out;cases h1;exact hpq rfl
     clear hs2 hpq
     go_upto_region 6 with fail
     refine wp_region_quiet_ext (by kernel_rfl) (by kernel_rfl) ?_
     repeat (go_big_quiet_step (first | (go_at_call 24;exact Calls.ext_of (HC.out _))))
     refine wpQuiet_nil ?_
     intro _ hw';obtain ⟨nq,hw''⟩:=hw';subst hw'';have HBN:=hid (HBw.out.trans ((ext_below wr nq).mono HBw.out.size));generalize ext wr nq=w5 at *;go_wp2;go_ret;exact ⟨ret_bool hne.out.symm,HBN.out⟩
   ·have hs1:((u:Int) != (v:Int))=true:=by rw [bne_iff_ne];omega
    have hne:Hid (RR=false):=by
     unfold Hid;rw [HRR.out, <- Bool.not_eq_true,eqA_iff];rintro rfl;have h1:=HXx.out.symm.trans HYy.out;cases h1;exact huv rfl
    clear huv
    go_upto_region 6 with fail
    refine wp_region_quiet_ext (by kernel_rfl) (by kernel_rfl) ?_
    repeat (go_big_quiet_step (first | (go_at_call 24;exact Calls.ext_of (HC.out _))))
    refine wpQuiet_nil ?_
    intro _ hw';obtain ⟨nq,hw''⟩:=hw';subst hw'';have HBN:=hid (HBw.out.trans ((ext_below wr nq).mono HBw.out.size));generalize ext wr nq=w5 at *;go_wp2;go_ret;exact ⟨ret_bool hne.out.symm,HBN.out⟩
  ·obtain rfl:j=f.ts.length:=by omega
   have he2:Hid (RR=true):=by
    have h1:=HTk.out;rw [List.take_length,HL.out,List.take_length] at h1;unfold Hid;rw [HRR.out,eqA_iff];cases f;cases g;simp only at h1;have h2:=HCc.out;simp only at h2;rw [h1,h2]
   go_wp2;go_ret;exact ⟨ret_bool he2.out.symm,HBw.out⟩
abbrev OwnT (w:World) (base:Nat) (v:Value) (L:List (Nat × Rat)):Prop:=Own4 TermP noI 84 w base v L
def NzPost (w:World) (base:Nat) (v:Value) (L:List (Nat × Rat)) (e:Ending) (w':World):Prop:=∃ a c,e=.returned (.slice a L.length c)/\OwnT w' base (.slice a L.length c) L/\w.grownBy w' v.ownBlock/\Next w v (.slice a L.length c)
theorem grown_of_below {w w':World} {row:Option Nat} (hb:Below w.heap.size w w'):w.grownBy w' row:=⟨hb.os,hb.tape,hb.output,hb.size,fun k hk _=>hb.block k hk⟩
theorem grown_after {w W w':World} {v:Value} (hb:Below w.heap.size w W) (hg:W.grownBy w' v.ownBlock):w.grownBy w' v.ownBlock:=
 ⟨hg.os.trans hb.os,hg.tape.trans hb.tape,hg.output.trans hb.output,Nat.le_trans hb.size hg.size,fun k hk hr=>(hg.block k (Nat.lt_of_lt_of_le hk hb.size) hr).trans (hb.block k hk)⟩
theorem nzPost_app {w W w4:World} {base n c:Nat} {a b4:Option Addr} {k4 v:Nat} {L:List (Nat × Rat)} {q:Rat} (he:L++oneT v q=L++[(v,q)]) (hn:L.length=n) (hb:Below w.heap.size w W) (ho:OwnT w4 base (.slice b4 (n+1) k4) (L++[(v,q)])) (hg:W.grownBy w4 (Value.slice a n c).ownBlock) (hx:Next W (.slice a n c) (.slice b4 (n+1) k4)):
  NzPost w base (.slice a n c) (L++oneT v q) (.returned (.slice b4 (n+1) k4)) w4:=by
 rw [he];have hl:(L++[(v,q)]).length=n+1:=by simp [hn]
 refine ⟨b4,k4,by rw [hl],by rw [hl];exact ho,grown_after hb hg,?_⟩
 rw [hl];exact hx.imp id (fun ⟨g,e,h⟩=>⟨g,e,Nat.le_trans hb.size h⟩)
theorem r7Nonzero {w:World} {base n v:Nat} {a:Option Addr} {c:Nat} {p1 p2 p3:Value} {L:List (Nat × Rat)} {q:Rat} (hown:OwnT w base (.slice a n c) L) (hn:L.length=n) (hbase:base<=w.heap.size)
  (hq:RatC w p1 p2 p3 q) (hql:RatLe (ratL q) 1048576) (hnb:n<=1000000):
  Calls Tryz.prog 81 #[.slice a n c,.agg #[.int .i64 (v:Int),p1,p2,p3]] w (NzPost w base (.slice a n c) (L++oneT v q)):=by
 have hV:=hq.val;have hql1:=hql.num;have b1:=blA w (.cells #[.int .i64 (v:Int),p1,p2,p3] 84);obtain ⟨HX,HB,HOw,HRC,HN,HSg⟩:=hd6 (Box4.alloc w (.int .i64 (v:Int)) p1 p2 p3 84) b1 (hown.below termK b1) (hq.below b1) hn (r3Sign (hV.below b1) (by omega));have hb1:base<=(w.alloc (.cells #[.int .i64 (v:Int),p1,p2,p3] 84)).heap.size:=Nat.le_trans hbase b1.size;obtain ⟨an,ad,cn,cd,rfl,rfl,rfl,_⟩:=hq.ex;rw [ratOf_ratL] at HSg;clear hown hV b1 hq
 go_enter Tryz.func81,Tryz.ntmps81
 go_upto_region 1 with fail
 generalize w.alloc (.cells #[.int .i64 (v:Int),.bool (ratL q).neg,.slice an (ratL q).num.length cn,.slice ad (ratL q).den.length cd] 84)=W at *;obtain ⟨x0,x1,x2,x3,xf,xlt⟩:=HX.out
 go_wp2_with fail
 refine HSg.out.mono ?_
 rintro e w1 ⟨rfl,hb⟩;have HX1:=hid (HX.out.below hb);have HB1:=htr HB hb;obtain ⟨HOw1,HRC1⟩:=hd2 (HOw.out.below termK hb) (HRC.out.below hb);have hb2:=Nat.le_trans hb1 hb.size;clear hb HSg HX HB HOw HRC x0 x1 x2 x3 xf xlt
 by_cases hz:q=0
 ·have hs:signQ q=0:=signQ_zero.2 hz;rw [hs];have e1:oneT v q=[]:=by unfold oneT;rw [if_pos hz]
  have HE:Hid (L++oneT v q=L):=by unfold Hid;rw [e1,List.append_nil]
  clear hz hs e1;go_wp2
  refine bodyPost_ret (v:=.slice a n c) (by simp [results,Tryz.results81,go_sem]) rfl ?_
  rw [HE.out];subst hn;exact ⟨a,c,rfl,HOw1.out,grown_of_below HB1.out,.inl rfl⟩
 ·have hs:(signQ q==0)=false:=by rw [beq_eq_false_iff_ne];exact fun e=>hz (signQ_zero.1 e)
  have hs2:decide (signQ q=0)=false:=decide_eq_false fun e=>hz (signQ_zero.1 e)
  have HE:Hid (L++oneT v q=L++[(v,q)]):=by unfold Hid oneT;rw [if_neg hz]
  generalize signQ q=sg at *;clear hz;obtain ⟨x0,x1,x2,x3,xf,xlt⟩:=HX1.out;have hal:=blA w1 (.cells #[.int .i64 (v:Int),.bool (ratL q).neg,.slice an (ratL q).num.length cn,.slice ad (ratL q).den.length cd] 84);obtain ⟨HRow,HOw2⟩:=hd2 (One4.alloc termK (show TermP w1 (.int .i64 (v:Int)) (.bool (ratL q).neg) (.slice an (ratL q).num.length cn) (.slice ad (ratL q).den.length cd) (v,q) from ⟨rfl,HRC1.out⟩) 84) (HOw1.out.below termK hal);have HB2:=htr HB1 hal;have hb3:=Nat.le_trans hb2 hal.size;clear hal
  go_wp2_with (at_builtin;refine wpList_app4 (T:=84) termK (.int .i64 0) (.bool false) (.slice none 0 0) (.slice none 0 0) 64 (by intro u hu;simp at hu;rcases hu with rfl | rfl | rfl | rfl <;> rfl) rfl (.tmp 10) (.tmp 12) 47 rfl base Tryz.underlying47 (by kernel_rfl) (by omega) (.slice a n c) n L HN.out rfl HOw2.out _ (v,q) HRow.out rfl (by omega) hb3 ?_;intro b4 k4 w4 hown4 hk4 hg4 hbe4 hnx4;have HPo:=hid (nzPost_app (L:=L) HE.out HN.out HB2.out hown4 hg4 hnx4);clear hown4 hg4 hbe4 hnx4)
  exact bodyPost_ret (v:=.slice b4 (n+1) k4) (by simp [results,Tryz.results81,go_sem]) rfl HPo.out
theorem len_one (v:Nat) (q:Rat):(oneT v q).length<=1:=by unfold oneT;split <;> simp
theorem insT_len:∀ (l:List (Nat × Rat)) (v:Nat) (q:Rat),(insT l v q).length<=l.length+1
 | [],v,q=>len_one v q
 | (u,p)::r,v,q=>by
  show (if u=v then oneT v (p+q)++r else if v < u then oneT v q++(u,p)::r else (u,p)::insT r v q).length<=_
  have h1:=len_one v (p+q);have h2:=len_one v q;have h3:=insT_len r v q
  split
  ·simp only [List.length_append,List.length_cons];omega
  ·split
   ·simp only [List.length_append,List.length_cons];omega
   ·simp only [List.length_cons];omega
theorem insT_past:∀ {a b:List (Nat × Rat)} {v:Nat} {q:Rat},(∃ t ∈ a,v<=t.1)->insT (a++b) v q=insT a v q++b
 | [],_,_,_,h=>by obtain ⟨t,ht,_⟩:=h;cases ht
 | (u,p)::r,b,v,q,h=>by
  show (if u=v then oneT v (p+q)++(r++b) else if v < u then oneT v q++(u,p)::(r++b) else (u,p)::insT (r++b) v q)=(if u=v then oneT v (p+q)++r else if v < u then oneT v q++(u,p)::r else (u,p)::insT r v q)++b
  split
  ·rw [List.append_assoc]
  ·split
   ·rw [List.append_assoc];rfl
   ·rename_i h1 h2
    obtain ⟨t,ht,hv⟩:=h;rw [insT_past ⟨t,?_,hv⟩];rfl
    rcases List.mem_cons.1 ht with e | e
    ·subst e;simp only at hv;omega
    ·exact e
theorem can_lt {l:List (Nat × Rat)}:∀ {lo:Nat},CanF l lo->∀ (j k:Nat) (s t:Nat × Rat),j < k->l[j]? =some s->l[k]? =some t->s.1 < t.1:=by
 induction l with
 | nil=>intro lo _ j k s t _ h;simp at h
 | cons a r ih=>
  intro lo h j k s t hjk hs ht;obtain ⟨u,p⟩:=a;obtain ⟨h1,h2,h3⟩:=h
  cases k with
  | zero=>omega
  | succ k=>
   rw [List.getElem?_cons_succ] at ht
   cases j with
   | zero=>
    cases hs;have:=(mem_coef h3 (List.mem_of_getElem? ht)).1;show u < t.1
    omega
   | succ j=>
    rw [List.getElem?_cons_succ] at hs;exact ih h3 j k s t (by omega) hs ht
def PlI (F:List (Nat × Rat)) (v:Nat) (q:Rat) (j:Nat) (L:List (Nat × Rat)) (dn:Bool):Prop:=(dn=false/\L=F.take j/\lowT (F.take j) v) ∨ (dn=true/\L=insT (F.take j) v q/\∃ t ∈ F.take j,v<=t.1)
section
variable {F:List (Nat × Rat)} {v:Nat} {q:Rat} {j:Nat} {L:List (Nat × Rat)} {u:Nat} {p:Rat}
theorem PlI.len {dn:Bool} (h:PlI F v q j L dn):L.length<=j+1:=by
 rcases h with ⟨_,rfl,_⟩ | ⟨_,rfl,_⟩
 ·rw [List.length_take];omega
 ·have:=insT_len (F.take j) v q;rw [List.length_take] at this;omega
theorem take_snoc {α:Type} {F:List α} {j:Nat} {x:α} (h:F[j]? =some x):F.take (j+1)=F.take j++[x]:=by rw [List.take_add_one,h];rfl
theorem can_nz:∀ {l:List (Nat × Rat)} {lo:Nat} {t:Nat × Rat},CanF l lo->t ∈ l->t.2 ≠ 0
 | [],_,_,_,h=>by cases h
 | (u,p)::r,lo,t,⟨_,h2,h3⟩,h=>by
  rcases List.mem_cons.1 h with rfl | h
  ·exact h2
  ·exact can_nz h3 h
theorem can_one_at (hc:CanF F 0) (h:F[j]? =some (u,p)):oneT u p=[(u,p)]:=by
 unfold oneT;rw [if_neg (can_nz hc (List.mem_of_getElem? h))]
theorem PlI.eq (h:PlI F v q j L false) (hx:F[j]? =some (v,p)):PlI F v q (j+1) (L++oneT v (p+q)) true:=by
 rcases h with ⟨_,rfl,hl⟩ | ⟨h,_⟩
 ·refine .inr ⟨rfl,?_,(v,p),?_,Nat.le_refl _⟩
  ·rw [take_snoc hx,show ([(v,p)]:List (Nat × Rat))=(v,p)::[] from rfl,insT_at hl,List.append_nil]
  ·rw [take_snoc hx];simp
 ·cases h
theorem PlI.gt (h:PlI F v q j L false) (hc:CanF F 0) (hx:F[j]? =some (u,p)) (hu:v < u):PlI F v q (j+1) ((L++oneT v q)++oneT u p) true:=by
 rcases h with ⟨_,rfl,hl⟩ | ⟨h,_⟩
 ·refine .inr ⟨rfl,?_,(u,p),?_,Nat.le_of_lt hu⟩
  ·rw [take_snoc hx,show ([(u,p)]:List (Nat × Rat))=(u,p)::[] from rfl,insT_gt hl hu,can_one_at hc hx]
  ·rw [take_snoc hx];simp
 ·cases h
theorem PlI.lt (h:PlI F v q j L false) (hc:CanF F 0) (hx:F[j]? =some (u,p)) (hu:u < v):PlI F v q (j+1) (L++oneT u p) false:=by
 rcases h with ⟨_,rfl,hl⟩ | ⟨h,_⟩
 ·refine .inl ⟨rfl,?_,?_⟩
  ·rw [take_snoc hx,can_one_at hc hx]
  ·rw [take_snoc hx];intro t ht
   rcases List.mem_append.1 ht with ht | ht
   ·exact hl t ht
   ·rw [List.mem_singleton] at ht;rw [ht];exact hu
 ·cases h
theorem PlI.dn (h:PlI F v q j L true) (hc:CanF F 0) (hx:F[j]? =some (u,p)):v < u/\PlI F v q (j+1) (L++oneT u p) true:=by
 rcases h with ⟨h,_⟩ | ⟨_,rfl,t,ht,hv⟩
 ·cases h
 ·obtain ⟨i,hi⟩:=List.getElem?_of_mem ht;have hlt:=(List.getElem?_eq_some_iff.1 hi).1;rw [List.length_take] at hlt;rw [List.getElem?_take_of_lt (by omega)] at hi;have h2:=can_lt hc i j t (u,p) (by omega) hi hx
  refine ⟨Nat.lt_of_le_of_lt hv h2,.inr ⟨rfl,?_,t,?_,hv⟩⟩
  ·rw [take_snoc hx,insT_past ⟨t,ht,hv⟩,can_one_at hc hx]
  ·rw [take_snoc hx];exact List.mem_append_left _ ht
end
structure PlB (w W:World) (F:List (Nat × Rat)) (k v q:Rat) (a an ad:Option Addr) (n c nn cn nd cd:Nat) (b:Bool) (qb:Bool) (qn qd:Option Addr) (qnn qcn qnd qcd:Nat):Prop where
 fb:Box4 W w.heap.size (.slice a n c) (.bool b) (.slice an nn cn) (.slice ad nd cd)
 cb:Box3 W (w.heap.size+1) (.bool qb) (.slice qn qnn qcn) (.slice qd qnd qcd)
 rb:Box4 W (w.heap.size+2) (.slice none 0 0) (.bool false) (.slice none 0 0) (.slice none 0 0)
 ra:AllB isBS W (w.heap.size+2)
 tm:TermsAt W a F
 kc:RatC W (.bool b) (.slice an nn cn) (.slice ad nd cd) k
 qv:RatV W (.agg #[.bool qb,.slice qn qnn qcn,.slice qd qnd qcd]) (ratL q)
 bl:Below w.heap.size w W
theorem PlB.below {w W W':World} {F:List (Nat × Rat)} {k v q:Rat} {a an ad:Option Addr} {n c nn cn nd cd:Nat} {b qb:Bool} {qn qd:Option Addr} {qnn qcn qnd qcd:Nat} (h:PlB w W F k v q a an ad n c nn cn nd cd b qb qn qd qnn qcn qnd qcd) (hb:Below W.heap.size W W'):PlB w W' F k v q a an ad n c nn cn nd cd b qb qn qd qnn qcn qnd qcd:=
 ⟨h.fb.below hb,h.cb.below hb,h.rb.below hb,h.ra.below hb h.rb.lt,h.tm.below termK hb,h.kc.below hb,h.qv.below hb,h.bl.trans (hb.mono h.bl.size)⟩
theorem r7Plus {w:World} {vf vq:Value} {f:AffQ} {v:Nat} {q:Rat} (hf:FormV w vf f) (hq:RatV w vq (ratL q)) (hcan:f.Can) (hfb:∀ t ∈ f.ts,RatLe (ratL t.2) 524286) (hql:RatLe (ratL q) 524286) (hs:∀ p,(v,p) ∈ f.ts->RatLe (ratL (p+q)) 1048576) (few:f.ts.length<=500000):
  Calls Tryz.prog 79 #[vf,.int .i64 (v:Int),vq] w (RetAf w ⟨insT f.ts v q,f.c⟩):=by
 obtain ⟨a,c,an,ad,cn,cd,rfl,hc,ht,l1,l2,u1,u2⟩:=hf.parts;obtain ⟨qn,qd,qcn,qcd,rfl,m1,m2,v1,v2⟩:=hq.ex;obtain ⟨HCan,HFb,HQl,HSm⟩:=hd4 (show CanF f.ts 0 from hcan) hfb hql hs;obtain ⟨RR,hRR⟩:∃ RR:AffQ,RR=⟨insT f.ts v q,f.c⟩:=⟨_,rfl⟩
 have HRR:=hid hRR;rw [<- hRR];have b1:=blA w (.cells #[.slice a f.ts.length c,.bool (ratL f.c).neg,.slice an (ratL f.c).num.length cn,.slice ad (ratL f.c).den.length cd] 53);have s1:(w.alloc (.cells #[.slice a f.ts.length c,.bool (ratL f.c).neg,.slice an (ratL f.c).num.length cn,.slice ad (ratL f.c).den.length cd] 53)).heap.size=w.heap.size+1:=by simp
 have x1:=Box4.alloc w (.slice a f.ts.length c) (.bool (ratL f.c).neg) (.slice an (ratL f.c).num.length cn) (.slice ad (ratL f.c).den.length cd) 53;obtain ⟨W1,hW1⟩:∃ W1,W1=w.alloc (.cells #[.slice a f.ts.length c,.bool (ratL f.c).neg,.slice an (ratL f.c).num.length cn,.slice ad (ratL f.c).den.length cd] 53):=⟨_,rfl⟩
 rw [<- hW1] at b1 s1 x1;have b2:=blA W1 (.cells #[.bool (ratL q).neg,.slice qn (ratL q).num.length qcn,.slice qd (ratL q).den.length qcd] 51);have s2:(W1.alloc (.cells #[.bool (ratL q).neg,.slice qn (ratL q).num.length qcn,.slice qd (ratL q).den.length qcd] 51)).heap.size=w.heap.size+2:=by simp [s1]
 have x2:=Box3.alloc W1 (.bool (ratL q).neg) (.slice qn (ratL q).num.length qcn) (.slice qd (ratL q).den.length qcd) 51;rw [s1] at x2;obtain ⟨W2,hW2⟩:∃ W2,W2=W1.alloc (.cells #[.bool (ratL q).neg,.slice qn (ratL q).num.length qcn,.slice qd (ratL q).den.length qcd] 51):=⟨_,rfl⟩
 rw [<- hW2] at b2 s2 x2;have b3:=blA W2 (.cells #[.slice none 0 0,.bool false,.slice none 0 0,.slice none 0 0] 53);have x3:=ABox.alloc (zer_form W2) 53;rw [s2] at x3;obtain ⟨W3,hW3⟩:∃ W3,W3=W2.alloc (.cells #[.slice none 0 0,.bool false,.slice none 0 0,.slice none 0 0] 53):=⟨_,rfl⟩
 rw [<- hW3] at b3 x3;have b23:=b2.trans (b3.mono b2.size);have b13:=b1.trans (b23.mono b1.size);have HP:Hid (PlB w W3 f.ts f.c 0 q a an ad f.ts.length c (ratL f.c).num.length cn (ratL f.c).den.length cd (ratL f.c).neg (ratL q).neg qn qd (ratL q).num.length qcn (ratL q).den.length qcd):=
  ⟨x1.below b23,x2.below b3,x3.bx,x3.al,ht.below termK b13,RatC.below ⟨an,ad,cn,cd,rfl,rfl,rfl,l1,l2,u1,u2⟩ b13,hq.below b13,b13⟩
 have HW:Hid (W3=((w.alloc (.cells #[.slice a f.ts.length c,.bool (ratL f.c).neg,.slice an (ratL f.c).num.length cn,.slice ad (ratL f.c).den.length cd] 53)).alloc (.cells #[.bool (ratL q).neg,.slice qn (ratL q).num.length qcn,.slice qd (ratL q).den.length qcd] 51)).alloc (.cells #[.slice none 0 0,.bool false,.slice none 0 0,.slice none 0 0] 53)):=by unfold Hid;rw [hW3,hW2,hW1]
 clear x1 x2 x3 b1 b2 b3 s1 s2 b23 b13 hW1 hW2 hW3 hf hq ht u1 u2 v1 v2 hfb hql hs hcan hRR l1 l2 m1 m2
 go_enter Tryz.func79,Tryz.ntmps79
 go_upto_region 1 with fail
 rw [<- HW.out];clear HW;go_wp2
 go_loopw [7,8,9] (fun o d i wr=>∃ (j:Nat) (L:List (Nat × Rat)) (dn:Bool) (aO:Option Addr) (cO:Nat),j<=f.ts.length/\o=.slice aO L.length cO/\d=.bool dn/\i=.int .i64 (j:Int)/\Hid (PlI f.ts v q j L dn)/\Hid (OwnT wr W3.heap.size (.slice aO L.length cO) L)/\Hid (Below W3.heap.size W3 wr)) (fun _ _ i _=>f.ts.length - (intOf i).toNat)
 case atStart=>exact ⟨0,[],false,none,0,Nat.zero_le _,rfl,rfl,rfl,.inl ⟨rfl,rfl,(by intro t ht;cases ht)⟩,Own4.nil _ _,Below.refl _ _⟩
 case round=>
  obtain ⟨j,L,dn,aO,cO,hj,rfl,rfl,rfl,HI,HOw,HB⟩:=hrel;have HPr:=hid (HP.out.below HB.out);have hLl:L.length<=500001:=by have:=HI.out.len;omega
  obtain ⟨nL,hnL⟩:∃ nL,nL=L.length:=⟨_,rfl⟩
  rw [<- hnL] at HOw hLl ⊢;have HNL:=hid hnL.symm;clear hnL
  by_cases hlt:j < f.ts.length
  ·obtain ⟨bF,oF,⟨u,p⟩,p0,p1,p2,p3,haF,hbF,hx,e0,e1,e2,e3,rfl,hrc⟩:=HPr.out.tm.pick hlt;simp only at e0 hrc;have HRc:=hid hrc;obtain ⟨an',ad',cn',cd',rfl,rfl,rfl,_⟩:=hrc.ex;have hal:=blA wr (.cells #[.int .i64 (u:Int),.bool (ratL p).neg,.slice an' (ratL p).num.length cn',.slice ad' (ratL p).den.length cd'] 84);obtain ⟨HT,HTn,HPj,HRj,HOwj⟩:=hd5 (Box4.alloc wr (.int .i64 (u:Int)) (.bool (ratL p).neg) (.slice an' (ratL p).num.length cn') (.slice ad' (ratL p).den.length cd') 84) (NoInt.alloc wr #[.int .i64 (u:Int),.bool (ratL p).neg,.slice an' (ratL p).num.length cn',.slice ad' (ratL p).den.length cd'] 84 (by simp)) (HPr.out.below hal) (HRc.out.below hal) (HOw.out.below termK hal);have HBj:=htr HB hal;have HOt:Hid ((Value.slice aO nL cO).ownBlock ≠ some wr.heap.size):=fun e=>by have:=(HOw.out.lt e).2;omega
   have HGe:Hid (W3.heap.size<=wr.heap.size):=HB.out.size;have HXx:=hid hx;have hpl:=HFb.out (u,p) (List.mem_of_getElem? hx);have HPl:=hid hpl;obtain ⟨x0,x1,x2,x3,xf,xlt⟩:=HPr.out.fb;subst haF;clear hx hrc hal hpl HRc HOw HPr
   go_upto_region 7 with fail
   generalize wr.alloc (.cells #[.int .i64 (u:Int),.bool (ratL p).neg,.slice an' (ratL p).num.length cn',.slice ad' (ratL p).den.length cd'] 84)=wj at *;clear x0 x1 x2 x3 xf xlt e0 e1 e2 e3;have hbj:W3.heap.size<=wj.heap.size:=HBj.out.size;have HRl:Hid (RatLe (ratL p) 1048576):=HPl.out.mono (by decide);obtain ⟨t0,t1,t2,t3,tf,tlt⟩:=HT.out;cases dn
   case false=>
    by_cases huv:u=v
    ·have k1:((u:Int)==(v:Int))=true:=by rw [huv];simp
     have k2:decide ((u:Int)=(v:Int))=true:=by rw [huv];simp
     have HUV:=hid huv;have HI1:Hid (PlI f.ts v q (j+1) (L++oneT u (p+q)) true):=by rw [huv];exact HI.out.eq (by rw [<- huv];exact HXx.out)
     have HAd:Hid (Calls Tryz.prog 78 #[.agg #[.bool (ratL p).neg,.slice an' (ratL p).num.length cn',.slice ad' (ratL p).den.length cd'],.agg #[.bool (ratL q).neg,.slice qn (ratL q).num.length qcn,.slice qd (ratL q).den.length qcd]] wj (RetR wj (ratL (p+q)))):=by
      have h:=r3Add HRj.out.val HPj.out.qv HPl.out HQl.out;rw [ratOf_ratL,ratOf_ratL] at h;exact h
     have HSq:Hid (RatLe (ratL (p+q)) 1048576):=HSm.out p (by rw [<- huv];exact List.mem_of_getElem? HXx.out);obtain ⟨z0,z1,z2,zf,zlt⟩:=HPj.out.cb;clear huv
     go_wp2_with fail
     refine HAd.out.mono ?_
     rintro e w5 ⟨v5,rfl,hv5,hb5⟩;obtain ⟨r1,r2,r3,rfl,hrc5⟩:=RatC.of hv5;have HRc5:=hid hrc5;obtain ⟨bn',bd',dn',dd',rfl,rfl,rfl,_⟩:=hrc5.ex;obtain ⟨HT5,HN5,HOw5⟩:=hd3 (HT.out.below hb5) (HTn.out.below hb5 HT.out.lt) (HOwj.out.below termK hb5);have HB5:=htr HBj hb5;clear hv5 hb5 hrc5 HAd t0 t1 t2 t3 tf tlt z0 z1 z2 zf zlt;obtain ⟨t0,t1,t2,t3,tf,tlt⟩:=HT5.out;have n1:=HN5.out.setCell 1 (.bool (ratL (p+q)).neg) (by simp);have n2:=n1.setCell 2 (.slice bn' (ratL (p+q)).num.length dn') (by simp);obtain ⟨HOwZ,HRcZ,HBz⟩:=hd3 (own_terms_set (own_terms_set (own_terms_set HOw5.out HN5.out HOt.out 1 (.bool (ratL (p+q)).neg)) n1 HOt.out 2 (.slice bn' (ratL (p+q)).num.length dn')) n2 HOt.out 3 (.slice bd' (ratL (p+q)).den.length dd')) (((HRc5.out.setCell HN5.out 1 (.bool (ratL (p+q)).neg)).setCell n1 2 (.slice bn' (ratL (p+q)).num.length dn')).setCell n2 3 (.slice bd' (ratL (p+q)).den.length dd')) (((HB5.out.setCell (p:=⟨wr.heap.size,1,none⟩) HGe.out (.bool (ratL (p+q)).neg)).setCell (p:=⟨wr.heap.size,2,none⟩) HGe.out (.slice bn' (ratL (p+q)).num.length dn')).setCell (p:=⟨wr.heap.size,3,none⟩) HGe.out (.slice bd' (ratL (p+q)).den.length dd'));have HNz:=hid (r7Nonzero (v:=u) HOwZ.out HNL.out HBz.out.size HRcZ.out HSq.out (by omega));clear n1 n2
     go_wp2_with fail
     refine HNz.out.mono ?_
     rintro e w9 ⟨a9,c9,rfl,ho9,hg9,_⟩;obtain ⟨n9,hn9⟩:∃ n9,n9=(L++oneT u (p+q)).length:=⟨_,rfl⟩
     rw [<- hn9] at ho9 ⊢;obtain ⟨HN9,HO9,HB9⟩:=hd3 hn9 ho9 ((HBz.out).grown hg9 (HBz.out).size (fun k hk=>(HOwZ.out.lt hk).1));clear ho9 hg9 hn9 HNz;go_wp2;go_roundw
     case rel=>exact ⟨j+1,L++oneT u (p+q),true,a9,c9,hlt,by rw [HN9.out],rfl,by go_num,HI1.out,by rw [<- HN9.out];exact HO9.out,HB9.out⟩
     case measure=>simp [intOf];omega
    ·have k1:((u:Int)==(v:Int))=false:=by rw [beq_eq_false_iff_ne];omega
     have k2:decide ((u:Int)=(v:Int))=false:=decide_eq_false (by omega)
     by_cases hgt:v < u
     ·have k3:decide ((v:Int) < (u:Int))=true:=decide_eq_true (by omega);have k4:(v:Int) < (u:Int):=by omega
      have k5:decide (v < u)=true:=decide_eq_true hgt;have HI1:=hid (HI.out.gt HCan.out HXx.out hgt);have HCn:Hid (Calls Tryz.prog 45 #[.agg #[.bool (ratL q).neg,.slice qn (ratL q).num.length qcn,.slice qd (ratL q).den.length qcd]] wj (RetR wj (ratL q))):=by
       have h:=r3Canon HPj.out.qv (HQl.out.mono (by decide));rw [canonL_ratL,ratOf_ratL] at h;exact h
      obtain ⟨z0,z1,z2,zf,zlt⟩:=HPj.out.cb;clear hgt huv
      go_wp2_with fail
      refine HCn.out.mono ?_
      rintro e w5 ⟨v5,rfl,hv5,hb5⟩;obtain ⟨r1,r2,r3,rfl,hrc5⟩:=RatC.of hv5;obtain ⟨HT5,HR5,HOw5⟩:=hd3 (HT.out.below hb5) (HRj.out.below hb5) (HOwj.out.below termK hb5);have HB5:=htr HBj hb5;have HN1:=hid (r7Nonzero (v:=v) HOw5.out HNL.out HB5.out.size hrc5 (HQl.out.mono (by decide)) (by omega));obtain ⟨bn',bd',dn',dd',rfl,rfl,rfl,_⟩:=hrc5.ex;clear hv5 hb5 hrc5 HCn t0 t1 t2 t3 tf tlt z0 z1 z2 zf zlt
      go_wp2_with fail
      refine HN1.out.mono ?_
      rintro e w6 ⟨a6,c6,rfl,ho6,hg6,hn6⟩;obtain ⟨HOwZ,HBz,HT6,HR6⟩:=hd4 ho6 (HB5.out.grown hg6 HB5.out.size (fun k hk=>(HOw5.out.lt hk).1)) (HT5.out.grown hg6 HOt.out) (HR5.out.grown hg6 HOw5.out.al.noI);have hL6:(L++oneT v q).length<=500002:=by have h:=len_one v q;have h2:=HNL.out;rw [List.length_append];omega
      obtain ⟨n6,hn6'⟩:∃ n6,n6=(L++oneT v q).length:=⟨_,rfl⟩
      rw [<- hn6'] at HOwZ hL6 ⊢;have HNz:=hid (r7Nonzero (v:=u) HOwZ.out hn6'.symm HBz.out.size HR6.out HRl.out (by omega));obtain ⟨t0,t1,t2,t3,tf,tlt⟩:=HT6.out;clear ho6 hg6 hn6 hn6' HN1
      go_wp2_with fail
      refine HNz.out.mono ?_
      rintro e w9 ⟨a9,c9,rfl,ho9,hg9,_⟩;obtain ⟨n9,hn9⟩:∃ n9,n9=((L++oneT v q)++oneT u p).length:=⟨_,rfl⟩
      rw [<- hn9] at ho9 ⊢;obtain ⟨HN9,HO9,HB9⟩:=hd3 hn9 ho9 ((HBz.out).grown hg9 (HBz.out).size (fun k hk=>(HOwZ.out.lt hk).1));clear ho9 hg9 hn9 HNz;go_wp2;go_roundw
      case rel=>exact ⟨j+1,(L++oneT v q)++oneT u p,true,a9,c9,hlt,by rw [HN9.out],rfl,by go_num,HI1.out,by rw [<- HN9.out];exact HO9.out,HB9.out⟩
      case measure=>simp [intOf];omega
     ·have k3:decide ((v:Int) < (u:Int))=false:=decide_eq_false (by omega);have k4:¬ ((v:Int) < (u:Int)):=by omega
      have k5:decide (v < u)=false:=decide_eq_false (by omega);obtain ⟨HI1,HNz⟩:=hd2 (HI.out.lt HCan.out HXx.out (by omega)) (r7Nonzero (v:=u) HOwj.out HNL.out HBj.out.size HRj.out HRl.out (by omega));clear hgt huv
      go_wp2_with fail
      refine HNz.out.mono ?_
      rintro e w9 ⟨a9,c9,rfl,ho9,hg9,_⟩;obtain ⟨n9,hn9⟩:∃ n9,n9=(L++oneT u p).length:=⟨_,rfl⟩
      rw [<- hn9] at ho9 ⊢;obtain ⟨HN9,HO9,HB9⟩:=hd3 hn9 ho9 ((HBj.out).grown hg9 (HBj.out).size (fun k hk=>(HOwj.out.lt hk).1));clear ho9 hg9 hn9 HNz;go_wp2;go_roundw
      case rel=>exact ⟨j+1,L++oneT u p,false,a9,c9,hlt,by rw [HN9.out],rfl,by go_num,HI1.out,by rw [<- HN9.out];exact HO9.out,HB9.out⟩
      case measure=>simp [intOf];omega
   case true=>
    obtain ⟨hvu,hI1⟩:=HI.out.dn HCan.out HXx.out;have k1:((u:Int)==(v:Int))=false:=by rw [beq_eq_false_iff_ne];omega
    have k2:decide ((u:Int)=(v:Int))=false:=decide_eq_false (by omega);obtain ⟨HI1,HNz⟩:=hd2 hI1 (r7Nonzero (v:=u) HOwj.out HNL.out HBj.out.size HRj.out HRl.out (by omega));clear hvu hI1
    go_wp2_with fail
    refine HNz.out.mono ?_
    rintro e w9 ⟨a9,c9,rfl,ho9,hg9,_⟩;obtain ⟨n9,hn9⟩:∃ n9,n9=(L++oneT u p).length:=⟨_,rfl⟩
    rw [<- hn9] at ho9 ⊢;obtain ⟨HN9,HO9,HB9⟩:=hd3 hn9 ho9 ((HBj.out).grown hg9 (HBj.out).size (fun k hk=>(HOwj.out.lt hk).1));clear ho9 hg9 hn9 HNz;go_wp2;go_roundw
    case rel=>exact ⟨j+1,L++oneT u p,true,a9,c9,hlt,by rw [HN9.out],rfl,by go_num,HI1.out,by rw [<- HN9.out];exact HO9.out,HB9.out⟩
    case measure=>simp [intOf];omega
  ·obtain rfl:j=f.ts.length:=by omega
   obtain ⟨x0,x1,x2,x3,xf,xlt⟩:=HPr.out.fb;have hrow:∀ (W':World) (a':Option Addr) (n' c':Nat) (L':List (Nat × Rat)),OwnT W' W3.heap.size (.slice a' n' c') L'->Below W3.heap.size W3 W'->L'.length=n'->L'=insT f.ts v q->n'<=500002->
     RetAf w RR (.returned (.agg #[.slice a' n' c',.bool (ratL f.c).neg,.slice an (ratL f.c).num.length cn,.slice ad (ratL f.c).den.length cd])) ((((W'.setCell ⟨w.heap.size+2,0,none⟩ (.slice a' n' c')).setCell ⟨w.heap.size+2,1,none⟩ (.bool (ratL f.c).neg)).setCell ⟨w.heap.size+2,2,none⟩ (.slice an (ratL f.c).num.length cn)).setCell ⟨w.heap.size+2,3,none⟩ (.slice ad (ratL f.c).den.length cd)):=by
    intro W' a' n' c' L' ho hb hl he hn;subst hl;have hP:=HP.out.below hb;obtain ⟨a2,c2,e2,hcc⟩:=ho.form;cases e2;have hfm:FormV W' (.agg #[.slice a' L'.length c',.bool (ratL f.c).neg,.slice an (ratL f.c).num.length cn,.slice ad (ratL f.c).den.length cd]) RR:=by
     rw [HRR.out, <- he];exact ⟨_,_,_,_,rfl,⟨a',c',rfl,hcc,ho.read (by omega)⟩,hP.kc⟩
    exact hfm.ret hP.ra hP.bl (by omega)
   have HRow:=hid hrow;clear hrow;cases dn
   case false=>
    have HL:Hid (L++oneT v q=insT f.ts v q):=by
     rcases HI.out with ⟨_,h1,h2⟩ | ⟨h,_⟩
     ·rw [List.take_of_length_le (Nat.le_refl _)] at h1 h2;rw [h1];exact (insT_end h2).symm
     ·cases h
    have HCn:Hid (Calls Tryz.prog 45 #[.agg #[.bool (ratL q).neg,.slice qn (ratL q).num.length qcn,.slice qd (ratL q).den.length qcd]] wr (RetR wr (ratL q))):=by
     have h:=r3Canon HPr.out.qv (HQl.out.mono (by decide));rw [canonL_ratL,ratOf_ratL] at h;exact h
    obtain ⟨z0,z1,z2,zf,zlt⟩:=HPr.out.cb
    go_wp2_with fail
    refine HCn.out.mono ?_
    rintro e w5 ⟨v5,rfl,hv5,hb5⟩;obtain ⟨r1,r2,r3,rfl,hrc5⟩:=RatC.of hv5;have HOw5:=hid (HOw.out.below termK hb5);have HB5:=htr HB hb5;have HN1:=hid (r7Nonzero (v:=v) HOw5.out HNL.out HB5.out.size hrc5 (HQl.out.mono (by decide)) (by omega));obtain ⟨bn',bd',dn',dd',rfl,rfl,rfl,_⟩:=hrc5.ex;clear hv5 hb5 hrc5 HCn x0 x1 x2 x3 xf xlt z0 z1 z2 zf zlt
    go_wp2_with fail
    refine HN1.out.mono ?_
    rintro e w6 ⟨a6,c6,rfl,ho6,hg6,hn6⟩;have HB6:=hid (HB5.out.grown hg6 HB5.out.size (fun k hk=>(HOw5.out.lt hk).1));have hL6:(L++oneT v q).length<=500002:=by have h:=len_one v q;have h2:=HNL.out;rw [List.length_append];omega
    have hr:=HRow.out w6 a6 _ c6 _ ho6 HB6.out rfl HL.out hL6;obtain ⟨n6,hn6'⟩:∃ n6,n6=(L++oneT v q).length:=⟨_,rfl⟩
    rw [<- hn6'] at hr ⊢;obtain ⟨HR6,HP6⟩:=hd2 hr (HP.out.below HB6.out);obtain ⟨x0,x1,x2,x3,xf,xlt⟩:=HP6.out.fb;obtain ⟨r0,r1,r2,r3,rf,rlt⟩:=HP6.out.rb;clear ho6 hg6 hn6 hn6' HN1 hr;go_wp2;exact bodyPost_ret (by simp [results,Tryz.results79,go_sem,r0,r1,r2,r3,rlt,Nat.ne_of_lt rlt]) rfl HR6.out
   case true=>
    have HL:Hid (L=insT f.ts v q):=by
     rcases HI.out with ⟨h,_⟩ | ⟨_,h1,_⟩
     ·cases h
     ·rw [List.take_of_length_le (Nat.le_refl _)] at h1;exact h1
    have HR6:=hid (HRow.out wr aO nL cO L HOw.out HB.out HNL.out HL.out (by omega));obtain ⟨r0,r1,r2,r3,rf,rlt⟩:=HPr.out.rb;go_wp2;exact bodyPost_ret (by simp [results,Tryz.results79,go_sem,r0,r1,r2,r3,rlt,Nat.ne_of_lt rlt]) rfl HR6.out
structure ScS (W3 wr:World) (tb base:Nat) (s:Value) (L:List (Nat × Rat)) (c1 c2 c3:Value) (k:Rat):Prop where
 bx:Box4 wr tb s c1 c2 c3
 no:NoInt wr tb
 own:OwnT wr base s L
 kc:RatC wr c1 c2 c3 k
 bl:Below W3.heap.size W3 wr
 lt:tb < base
 ge:W3.heap.size<=tb
theorem ScS.below {W3 wr W:World} {tb base:Nat} {s:Value} {L:List (Nat × Rat)} {c1 c2 c3:Value} {k:Rat} (h:ScS W3 wr tb base s L c1 c2 c3 k) (hb:Below wr.heap.size wr W):ScS W3 W tb base s L c1 c2 c3 k:=
 ⟨h.bx.below hb,h.no.below hb h.bx.lt,h.own.below termK hb,h.kc.below hb,h.bl.trans (hb.mono h.bl.size),h.lt,h.ge⟩
theorem ScS.app {W3 wr W:World} {tb base:Nat} {s s':Value} {L L':List (Nat × Rat)} {c1 c2 c3:Value} {k:Rat} (h:ScS W3 wr tb base s L c1 c2 c3 k) (ho:OwnT W base s' L') (hg:wr.grownBy W s.ownBlock) (hs:∀ x,s' ≠ .int .u32 x):
  ScS W3 (W.setCell ⟨tb,0,none⟩ s') tb base s' L' c1 c2 c3 k:=by
 have hlt:=h.lt;have hge:=h.ge;have hf1:s.ownBlock ≠ some tb:=fun e=>by have:=(h.own.lt e).1;omega
 have hf2:s'.ownBlock ≠ some tb:=fun e=>by have:=(ho.lt e).1;omega
 have hn:=h.no.grown h.bx.lt hg hf1;have hb:Below W3.heap.size W3 W:=h.bl.grown hg h.bl.size (fun q hq=>by have:=(h.own.lt hq).1;omega);exact ⟨(h.bx.grown hg hf1).set0 s',hn.setCell _ _ hs,own_terms_set ho hn hf2 _ _,(h.kc.grown hg h.own.al.noI).setCell hn _ _,hb.setCell (p:=⟨tb,0,none⟩) hge _,hlt,hge⟩
theorem r7Scale {w:World} {vf vq:Value} {f:AffQ} {q:Rat} (hf:FormV w vf f) (hq:RatV w vq (ratL q)) (hcan:f.Can) (hfb:∀ t ∈ f.ts,RatLe (ratL t.2) 1048575) (hcb:RatLe (ratL f.c) 1048575) (hql:RatLe (ratL q) 1048575) (hs:∀ t ∈ f.ts,RatLe (ratL (t.2 * q)) 1048576) (few:f.ts.length<=500000):
  Calls Tryz.prog 49 #[vf,vq] w (RetAf w (scA q f)):=by
 obtain ⟨a,c,an,ad,cn,cd,rfl,hc,ht,l1,l2,u1,u2⟩:=hf.parts;obtain ⟨qn,qd,qcn,qcd,rfl,m1,m2,v1,v2⟩:=hq.ex;obtain ⟨HFb,HCb,HQl,HSm⟩:=hd4 hfb hcb hql hs;obtain ⟨RR,hRR⟩:∃ RR:AffQ,RR=scA q f:=⟨_,rfl⟩
 have HRR:Hid (RR=⟨sclT q f.ts,f.c * q⟩):=by
  unfold Hid;rw [hRR];show (⟨addT q [] f.ts,0+q * f.c⟩:AffQ)=_
  rw [<- sclT_add hcan,Rat.zero_add,Rat.mul_comm]
 rw [<- hRR];have b1:=blA w (.cells #[.slice a f.ts.length c,.bool (ratL f.c).neg,.slice an (ratL f.c).num.length cn,.slice ad (ratL f.c).den.length cd] 53);have s1:(w.alloc (.cells #[.slice a f.ts.length c,.bool (ratL f.c).neg,.slice an (ratL f.c).num.length cn,.slice ad (ratL f.c).den.length cd] 53)).heap.size=w.heap.size+1:=by simp
 have x1:=Box4.alloc w (.slice a f.ts.length c) (.bool (ratL f.c).neg) (.slice an (ratL f.c).num.length cn) (.slice ad (ratL f.c).den.length cd) 53;obtain ⟨W1,hW1⟩:∃ W1,W1=w.alloc (.cells #[.slice a f.ts.length c,.bool (ratL f.c).neg,.slice an (ratL f.c).num.length cn,.slice ad (ratL f.c).den.length cd] 53):=⟨_,rfl⟩
 rw [<- hW1] at b1 s1 x1;have b2:=blA W1 (.cells #[.bool (ratL q).neg,.slice qn (ratL q).num.length qcn,.slice qd (ratL q).den.length qcd] 51);have s2:(W1.alloc (.cells #[.bool (ratL q).neg,.slice qn (ratL q).num.length qcn,.slice qd (ratL q).den.length qcd] 51)).heap.size=w.heap.size+2:=by simp [s1]
 have x2:=Box3.alloc W1 (.bool (ratL q).neg) (.slice qn (ratL q).num.length qcn) (.slice qd (ratL q).den.length qcd) 51;rw [s1] at x2;obtain ⟨W2,hW2⟩:∃ W2,W2=W1.alloc (.cells #[.bool (ratL q).neg,.slice qn (ratL q).num.length qcn,.slice qd (ratL q).den.length qcd] 51):=⟨_,rfl⟩
 rw [<- hW2] at b2 s2 x2;have b3:=blA W2 (.cells #[.slice none 0 0,.bool false,.slice none 0 0,.slice none 0 0] 53);have x3:=ABox.alloc (zer_form W2) 53;rw [s2] at x3;obtain ⟨W3,hW3⟩:∃ W3,W3=W2.alloc (.cells #[.slice none 0 0,.bool false,.slice none 0 0,.slice none 0 0] 53):=⟨_,rfl⟩
 rw [<- hW3] at b3 x3;have b23:=b2.trans (b3.mono b2.size);have b13:=b1.trans (b23.mono b1.size);have HP:Hid (PlB w W3 f.ts f.c 0 q a an ad f.ts.length c (ratL f.c).num.length cn (ratL f.c).den.length cd (ratL f.c).neg (ratL q).neg qn qd (ratL q).num.length qcn (ratL q).den.length qcd):=
  ⟨x1.below b23,x2.below b3,x3.bx,x3.al,ht.below termK b13,RatC.below ⟨an,ad,cn,cd,rfl,rfl,rfl,l1,l2,u1,u2⟩ b13,hq.below b13,b13⟩
 have HW:Hid (W3=((w.alloc (.cells #[.slice a f.ts.length c,.bool (ratL f.c).neg,.slice an (ratL f.c).num.length cn,.slice ad (ratL f.c).den.length cd] 53)).alloc (.cells #[.bool (ratL q).neg,.slice qn (ratL q).num.length qcn,.slice qd (ratL q).den.length qcd] 51)).alloc (.cells #[.slice none 0 0,.bool false,.slice none 0 0,.slice none 0 0] 53)):=by unfold Hid;rw [hW3,hW2,hW1]
 clear x1 x2 x3 b1 b2 b3 s1 s2 b23 b13 hW1 hW2 hW3 hf hq ht u1 u2 v1 v2 hfb hql hs hcan hRR l1 l2 m1 m2 hcb
 go_enter Tryz.func49,Tryz.ntmps49
 go_upto_region 1 with fail
 rw [<- HW.out];clear HW;obtain ⟨x0,x1,x2,x3,xf,xlt⟩:=HP.out.fb;obtain ⟨z0,z1,z2,zf,zlt⟩:=HP.out.cb;have HM:Hid (Calls Tryz.prog 80 #[.agg #[.bool (ratL f.c).neg,.slice an (ratL f.c).num.length cn,.slice ad (ratL f.c).den.length cd],.agg #[.bool (ratL q).neg,.slice qn (ratL q).num.length qcn,.slice qd (ratL q).den.length qcd]] W3 (RetR W3 (ratL (f.c * q)))):=by
  have h:=r3Mul HP.out.kc.val HP.out.qv HCb.out HQl.out;rw [ratOf_ratL,ratOf_ratL] at h;exact h
 go_wp2_with fail
 refine HM.out.mono ?_
 rintro e w5 ⟨v5,rfl,hv5,hb5⟩;obtain ⟨r1,r2,r3,rfl,hrc5⟩:=RatC.of hv5;have HRc5:=hid hrc5;obtain ⟨bn',bd',dn',dd',rfl,rfl,rfl,_⟩:=hrc5.ex;have hal:=blA w5 (.cells #[.slice none 0 0,.bool (ratL (f.c * q)).neg,.slice bn' (ratL (f.c * q)).num.length dn',.slice bd' (ratL (f.c * q)).den.length dd'] 53);have hT:=Box4.alloc w5 (.slice none 0 0) (.bool (ratL (f.c * q)).neg) (.slice bn' (ratL (f.c * q)).num.length dn') (.slice bd' (ratL (f.c * q)).den.length dd') 53;have hTn:=NoInt.alloc w5 #[.slice none 0 0,.bool (ratL (f.c * q)).neg,.slice bn' (ratL (f.c * q)).num.length dn',.slice bd' (ratL (f.c * q)).den.length dd'] 53 (by simp);have HSc:Hid (ScS W3 (w5.alloc (.cells #[.slice none 0 0,.bool (ratL (f.c * q)).neg,.slice bn' (ratL (f.c * q)).num.length dn',.slice bd' (ratL (f.c * q)).den.length dd'] 53)) w5.heap.size (w5.heap.size+1) (.slice none 0 0) [] (.bool (ratL (f.c * q)).neg) (.slice bn' (ratL (f.c * q)).num.length dn') (.slice bd' (ratL (f.c * q)).den.length dd') (f.c * q)):=
  ⟨hT,hTn,Own4.nil _ _,HRc5.out.below hal,hb5.trans (hal.mono hb5.size),Nat.lt_succ_self _,hb5.size⟩
 clear hv5 hb5 hrc5 HM HRc5 hal hT hTn x0 x1 x2 x3 xf xlt z0 z1 z2 zf zlt
 go_upto_region 2 with fail
 generalize w5.alloc (.cells #[.slice none 0 0,.bool (ratL (f.c * q)).neg,.slice bn' (ratL (f.c * q)).num.length dn',.slice bd' (ratL (f.c * q)).den.length dd'] 53)=W6 at *;obtain ⟨tb,htb⟩:∃ tb,tb=w5.heap.size:=⟨_,rfl⟩
 rw [<- htb] at HSc ⊢;clear htb;go_wp2
 go_loopw [6] (fun i wr=>∃ (j:Nat) (L:List (Nat × Rat)) (aO:Option Addr) (nO cO:Nat),j<=f.ts.length/\i=.int .i64 (j:Int)/\Hid (L=sclT q (f.ts.take j))/\Hid (L.length=nO)/\nO<=j/\Hid (ScS W3 wr tb (tb+1) (.slice aO nO cO) L (.bool (ratL (f.c * q)).neg) (.slice bn' (ratL (f.c * q)).num.length dn') (.slice bd' (ratL (f.c * q)).den.length dd') (f.c * q))) (fun i _=>f.ts.length - (intOf i).toNat)
 case atStart=>exact ⟨0,[],none,0,0,Nat.zero_le _,rfl,rfl,rfl,Nat.le_refl _,HSc.out⟩
 case round=>
  obtain ⟨j,L,aO,nO,cO,hj,rfl,HL,HN,hnj,HS⟩:=hrel;have HPr:=hid (HP.out.below HS.out.bl);obtain ⟨x0,x1,x2,x3,xf,xlt⟩:=HPr.out.fb
  by_cases hlt:j < f.ts.length
  ·obtain ⟨bF,oF,⟨u,p⟩,p0,p1,p2,p3,haF,hbF,hx,e0,e1,e2,e3,rfl,hrc⟩:=HPr.out.tm.pick hlt;simp only at e0 hrc;have HRc:=hid hrc;obtain ⟨an',ad',cn',cd',rfl,rfl,rfl,_⟩:=hrc.ex;have HStep:Hid (sclT q (f.ts.take (j+1))=L++oneT u (p * q)):=by
    unfold Hid;rw [take_snoc hx,sclT_snoc,HL.out]
   obtain ⟨HPl,HPq⟩:=hd2 (HFb.out (u,p) (List.mem_of_getElem? hx)) (HSm.out (u,p) (List.mem_of_getElem? hx));have HMu:Hid (∀ X,Below wr.heap.size wr X->Calls Tryz.prog 80 #[.agg #[.bool (ratL p).neg,.slice an' (ratL p).num.length cn',.slice ad' (ratL p).den.length cd'],.agg #[.bool (ratL q).neg,.slice qn (ratL q).num.length qcn,.slice qd (ratL q).den.length qcd]] X (RetR X (ratL (p * q)))):=fun X hb=>by
    have h:=r3Mul (HRc.out.below hb).val ((HPr.out.below hb).qv) HPl.out HQl.out;rw [ratOf_ratL,ratOf_ratL] at h;exact h
   have HCe:Hid (∀ X,Below wr.heap.size wr X->X.cell? ⟨w.heap.size,0,none⟩=some (.slice (some ⟨bF,oF,none⟩) f.ts.length c)/\w.heap.size < X.heap.size/\X.cell? ⟨w.heap.size+1,0,none⟩=some (.bool (ratL q).neg)/\X.cell? ⟨w.heap.size+1,1,none⟩=some (.slice qn (ratL q).num.length qcn)/\X.cell? ⟨w.heap.size+1,2,none⟩=some (.slice qd (ratL q).den.length qcd)/\w.heap.size+1 < X.heap.size/\
     X.cell? ⟨bF,oF+j * 4,none⟩=some (.int .i64 (u:Int))/\X.cell? ⟨bF,oF+j * 4+1,none⟩=some (.bool (ratL p).neg)/\X.cell? ⟨bF,oF+j * 4+2,none⟩=some (.slice an' (ratL p).num.length cn')/\X.cell? ⟨bF,oF+j * 4+3,none⟩=some (.slice ad' (ratL p).den.length cd')/\bF < X.heap.size/\
     X.cell? ⟨tb,0,none⟩=some (.slice aO nO cO)/\tb < X.heap.size):=fun X hb=>by
    have hP:=HPr.out.below hb;have hS:=HS.out.below hb
    refine ⟨by rw [<- haF];exact hP.fb.c0,hP.fb.lt,hP.cb.c0,hP.cb.c1,hP.cb.c2,hP.cb.lt,(hb.cell hbF).trans e0,(hb.cell hbF).trans e1,(hb.cell hbF).trans e2,(hb.cell hbF).trans e3,Nat.lt_of_lt_of_le hbF hb.size,hS.bx.c0,hS.bx.lt⟩
   rw [haF];rw [haF] at x0;clear hx hrc e0 e1 e2 e3 HPl
   go_upto_region 5 with fail
   clear x0 x1 x2 x3 xf xlt
   refine wp_region_slots_tail 17 (by kernel_rfl) (by kernel_rfl) (by kernel_rfl) (by kernel_rfl) (by decide) (From wr.heap.size wr) (fun w w'=>Below w.heap.size w w') (GQ [.val (.pointer (some ⟨tb,0,none⟩)),.val (.slice aO nO cO),.val (.pointer (some ⟨w.heap.size,0,none⟩)),.val (.slice (some ⟨bF,oF,none⟩) f.ts.length c),.val (.int .i64 (j:Int)),.val (.pointer (some ⟨bF,oF+j * 4,none⟩)),.val (.pointer (some ⟨bF,oF+j * 4,none⟩)),.val (.int .i64 (u:Int)),.val (.pointer (some ⟨w.heap.size,0,none⟩)),.val (.slice (some ⟨bF,oF,none⟩) f.ts.length c),.val (.int .i64 (j:Int)),.val (.pointer (some ⟨bF,oF+j * 4,none⟩)),.val (.pointer (some ⟨bF,oF+j * 4+1,none⟩)),.val (.agg #[.bool (ratL p).neg,.slice an' (ratL p).num.length cn',.slice ad' (ratL p).den.length cd']),.val (.agg #[.bool (ratL q).neg,.slice qn (ratL q).num.length qcn,.slice qd (ratL q).den.length qcd]),.rat (p * q),.trm u (p * q)]) (fun i v w w' h hb=>GQ_below h hb) (From.start (Nat.le_refl _)) ?_ ?_
   ·intro ops;simp only [List.take_succ_cons,List.take_zero,Shows]
    refine ⟨?v0,?v1,?v2,?v3,?v4,?v5,?v6,?v7,?v8,?v9,?v10,?v11,?v12,?v13,?v14,?_,?_,trivial⟩
    all_goals (intro y' X hR hL;have hB:=hR.base;obtain ⟨x0,xlt,k0,k1,k2,klt,e0,e1,e2,e3,elt,t0,tlt⟩:=HCe.out X hR.be;simp only [Laid,Region.binds,forall_const,Bool.false_eq_true,false_implies,GQ,List.getElem?_cons_zero,List.getElem?_cons_succ] at hL;simp [fillFrom,Act.put])
    case v0|v1|v2|v3|v4|v5|v6|v7|v8|v9|v10|v11|v12|v13|v14=>
     try simp only [hL]
     clear hL;have HR:=hid hR;clear hR;go_wp2
     first | refine ⟨_,rfl,?_⟩ | skip
     exact ⟨HR.out,Below.refl _ _,rfl⟩
    ·try simp only [hL]
     clear hL;have HR:=hid hR;clear hR;have HCt:=hid (HMu.out X HR.out.be)
     go_wp2_with fail
     refine HCt.out.mono ?_
     rintro e w1 ⟨v1,rfl,kv,kb⟩;obtain ⟨KV,KB⟩:=hd2 kv kb;clear kv kb HCt;go_wp2
     first | refine ⟨_,rfl,?_⟩ | skip
     exact ⟨⟨Nat.le_trans HR.out.base KB.out.size,HR.out.be.trans (KB.out.mono HR.out.base)⟩,KB.out,KV.out⟩
    ·generalize y' 7=y7 at hL ⊢;generalize y' 15=y15 at hL ⊢;obtain ⟨rfl,H15,_⟩:=hL;obtain ⟨K15,HR⟩:=hd2 H15 hR;clear hR H15;obtain ⟨an',ad',cn',cd',rfl,l1,l2,u1,u2⟩:=K15.out.ex;have HRC:=hid (show RatC X _ _ _ _ from ⟨an',ad',cn',cd',rfl,rfl,rfl,l1,l2,u1,u2⟩);clear u1 u2 K15;go_wp2
     first | refine ⟨_,rfl,?_⟩ | skip
     exact ⟨HR.out,Below.refl _ _,_,_,_,rfl,HRC.out⟩
   ·intro ops y' X hR hL;have hB:=hR.base;have J1:=hL.1.1.1.1.1.1.1.1.1.1.1.1.1.1.1.2;have J16:=hL.2;simp only [GQ,List.getElem?_cons_zero,List.getElem?_cons_succ] at J1 J16;obtain ⟨x0,xlt,k0,k1,k2,klt,e0,e1,e2,e3,elt,t0,tlt⟩:=HCe.out X hR.be;clear hL;simp only [List.take_succ_cons,List.take_zero,List.drop_succ_cons,List.drop_zero];simp [fillFrom,Act.put];generalize y' 1=y1 at J1 ⊢;obtain rfl:=J1;generalize y' 16=y16 at J16 ⊢;have HR:=hid hR;clear hR;obtain ⟨r1,r2,r3,rfl,hrc⟩:=J16;have HSX:=hid (HS.out.below HR.out.be);have HNz:=hid (r7Nonzero (v:=u) HSX.out.own HN.out (Nat.le_trans HSX.out.bx.lt (Nat.le_refl _)) hrc HPq.out (by omega));obtain ⟨an2,ad2,cn2,cd2,rfl,rfl,rfl,_⟩:=hrc.ex;clear hrc x0 xlt k0 k1 k2 klt e0 e1 e2 e3 elt t0 tlt
    go_wp2_with fail
    refine HNz.out.mono ?_
    rintro e w9 ⟨a9,c9,rfl,ho9,hg9,_⟩;obtain ⟨n9,hn9⟩:∃ n9,n9=(L++oneT u (p * q)).length:=⟨_,rfl⟩
    rw [<- hn9] at ho9 ⊢;have hn9b:n9<=j+1:=by have h:=len_one u (p * q);have h2:=HN.out;rw [hn9,List.length_append];omega
    obtain ⟨HN9,HS9⟩:=hd2 hn9 (HSX.out.app ho9 hg9 (by simp));have hb9:=(HSX.out.bx.grown hg9 (fun e=>by have:=(HSX.out.own.lt e).1;omega))
    obtain ⟨t0,t1,t2,t3,tf,tlt⟩:=hb9;clear ho9 hg9 hn9 HNz;go_wp2;go_roundw
    case rel=>exact ⟨j+1,L++oneT u (p * q),a9,n9,c9,hlt,by go_num,HStep.out.symm,HN9.out.symm,hn9b,HS9.out⟩
    case measure=>simp [intOf];omega
  ·obtain rfl:j=f.ts.length:=by omega
   obtain ⟨t0,t1,t2,t3,tf,tlt⟩:=HS.out.bx;obtain ⟨r0,r1,r2,r3,rf,rlt⟩:=HPr.out.rb;have hcc:nO<=cO:=by
    obtain ⟨a2,c2,e2,hcc⟩:=HS.out.own.form;simp only [Value.slice.injEq] at e2;obtain ⟨_,e3,e4⟩:=e2;have:=HN.out;omega
   have hfm:FormV wr (.agg #[.slice aO nO cO,.bool (ratL (f.c * q)).neg,.slice bn' (ratL (f.c * q)).num.length dn',.slice bd' (ratL (f.c * q)).den.length dd']) RR:=by
    rw [HRR.out];have hL:=HL.out;rw [List.take_of_length_le (Nat.le_refl _)] at hL;have hN:=HN.out;subst hL;exact ⟨_,_,_,_,rfl,⟨aO,cO,by rw [hN],by rw [hN];exact hcc,HS.out.own.read (by rw [hN];omega)⟩,HS.out.kc⟩
   have HO:=hid (hfm.ret HPr.out.ra HPr.out.bl (by omega));clear hfm hcc;go_wp2;exact bodyPost_ret (by simp [results,Tryz.results49,go_sem,r0,r1,r2,r3,rlt,Nat.ne_of_lt rlt]) rfl HO.out
end Go.Proofs.YtfgmmghmmfmdgaaGreat
