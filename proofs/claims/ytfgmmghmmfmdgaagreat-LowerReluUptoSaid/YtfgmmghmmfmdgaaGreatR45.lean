/-
  Contracts of the functions that the statement reaches: RgE, RgF.
-/
import Derived.Test.YtfgmmghmmfmdgaaGreatR44
set_option linter.all false
set_option maxRecDepth 100000
set_option maxHeartbeats 3200000
namespace Go.Proofs.YtfgmmghmmfmdgaaGreat
open Go.RowKit
open Go.Lib (hid)
structure ScS (W3 wr:World) (tb base:Nat) (s:Value) (L:List (Nat × Rat)) (c1 c2 c3:Value) (k:Rat):Prop where
 bx:Box4 wr tb s c1 c2 c3
 no:NoInt wr tb
 own:OwnT wr base s L
 kc:RatC wr c1 c2 c3 k
 bl:Below W3.heap.size W3 wr
 lt:tb < base
 ge:W3.heap.size<=tb
theorem ScS.below {W3 wr W:World} {tb base:Nat} {s:Value} {L:List (Nat × Rat)} {c1 c2 c3:Value} {k:Rat} (h:ScS W3 wr tb base s L c1 c2 c3 k) (hb:Below wr.heap.size wr W):ScS W3 W tb base s L c1 c2 c3 k:=
 ⟨h.bx.below hb,h.no.below hb h.bx.lt,h.own.below termK hb,h.kc.below hb,h.bl.trans (hb.mono h.bl.size),h.lt,h.ge⟩
theorem ScS.app {W3 wr W:World} {tb base:Nat} {s s':Value} {L L':List (Nat × Rat)} {c1 c2 c3:Value} {k:Rat} (h:ScS W3 wr tb base s L c1 c2 c3 k) (ho:OwnT W base s' L') (hg:wr.grownBy W s.ownBlock) (hs:∀ x,s' ≠ .int .u32 x):
  ScS W3 (W.setCell ⟨tb,0,none⟩ s') tb base s' L' c1 c2 c3 k:=by
 have hlt:=h.lt;have hge:=h.ge;have hf1:s.ownBlock ≠ some tb:=fun e=>by have:=(h.own.lt e).1;omega
 have hf2:s'.ownBlock ≠ some tb:=fun e=>by have:=(ho.lt e).1;omega
 have hn:=h.no.grown h.bx.lt hg hf1;have hb:Below W3.heap.size W3 W:=h.bl.grown hg h.bl.size (fun q hq=>by have:=(h.own.lt hq).1;omega);exact ⟨(h.bx.grown hg hf1).set0 s',hn.setCell _ _ hs,own_terms_set ho hn hf2 _ _,(h.kc.grown hg h.own.al.noI).setCell hn _ _,hb.setCell (p:=⟨tb,0,none⟩) hge _,hlt,hge⟩
theorem r7Scale {w:World} {vf vq:Value} {f:AffQ} {q:Rat} (hf:FormV w vf f) (hq:RatV w vq (ratL q)) (hcan:f.Can) (hfb:∀ t ∈ f.ts,RatLe (ratL t.2) 1048575) (hcb:RatLe (ratL f.c) 1048575) (hql:RatLe (ratL q) 1048575) (hs:∀ t ∈ f.ts,RatLe (ratL (t.2 * q)) 1048576) (few:f.ts.length<=500000):
  Calls Tryz.prog 49 #[vf,vq] w (RetAf w (scA q f)):=by
 obtain ⟨a,c,an,ad,cn,cd,rfl,hc,ht,l1,l2,u1,u2⟩:=hf.parts;obtain ⟨qn,qd,qcn,qcd,rfl,m1,m2,v1,v2⟩:=hq.ex;obtain ⟨HFb,HCb,HQl,HSm⟩:=hd4 hfb hcb hql hs;obtain ⟨RR,hRR⟩:∃ RR:AffQ,RR=scA q f:=⟨_,rfl⟩
 have HRR:Hid (RR=⟨sclT q f.ts,f.c * q⟩):=by
  unfold Hid;rw [hRR];show (⟨addT q [] f.ts,0+q * f.c⟩:AffQ)=_
  rw [<- sclT_add hcan,Rat.zero_add,Rat.mul_comm]
 rw [<- hRR];have b1:=blA w (.cells #[.slice a f.ts.length c,.bool (ratL f.c).neg,.slice an (ratL f.c).num.length cn,.slice ad (ratL f.c).den.length cd] 53);have s1:(w.alloc (.cells #[.slice a f.ts.length c,.bool (ratL f.c).neg,.slice an (ratL f.c).num.length cn,.slice ad (ratL f.c).den.length cd] 53)).heap.size=w.heap.size+1:=by simp
 have x1:=Box4.alloc w (.slice a f.ts.length c) (.bool (ratL f.c).neg) (.slice an (ratL f.c).num.length cn) (.slice ad (ratL f.c).den.length cd) 53;obtain ⟨W1,hW1⟩:∃ W1,W1=w.alloc (.cells #[.slice a f.ts.length c,.bool (ratL f.c).neg,.slice an (ratL f.c).num.length cn,.slice ad (ratL f.c).den.length cd] 53):=⟨_,rfl⟩
 rw [<- hW1] at b1 s1 x1;have b2:=blA W1 (.cells #[.bool (ratL q).neg,.slice qn (ratL q).num.length qcn,.slice qd (ratL q).den.length qcd] 51);have s2:(W1.alloc (.cells #[.bool (ratL q).neg,.slice qn (ratL q).num.length qcn,.slice qd (ratL q).den.length qcd] 51)).heap.size=w.heap.size+2:=by simp [s1]
 have x2:=Box3.alloc W1 (.bool (ratL q).neg) (.slice qn (ratL q).num.length qcn) (.slice qd (ratL q).den.length qcd) 51;rw [s1] at x2;obtain ⟨W2,hW2⟩:∃ W2,W2=W1.alloc (.cells #[.bool (ratL q).neg,.slice qn (ratL q).num.length qcn,.slice qd (ratL q).den.length qcd] 51):=⟨_,rfl⟩
 rw [<- hW2] at b2 s2 x2;have b3:=blA W2 (.cells #[.slice none 0 0,.bool false,.slice none 0 0,.slice none 0 0] 53);have x3:=ABox.alloc (zer_form W2) 53;rw [s2] at x3;obtain ⟨W3,hW3⟩:∃ W3,W3=W2.alloc (.cells #[.slice none 0 0,.bool false,.slice none 0 0,.slice none 0 0] 53):=⟨_,rfl⟩
 rw [<- hW3] at b3 x3;have b23:=b2.trans (b3.mono b2.size);have b13:=b1.trans (b23.mono b1.size);have HP:Hid (PlB w W3 f.ts f.c 0 q a an ad f.ts.length c (ratL f.c).num.length cn (ratL f.c).den.length cd (ratL f.c).neg (ratL q).neg qn qd (ratL q).num.length qcn (ratL q).den.length qcd):=
  ⟨x1.below b23,x2.below b3,x3.bx,x3.al,ht.below termK b13,RatC.below ⟨an,ad,cn,cd,rfl,rfl,rfl,l1,l2,u1,u2⟩ b13,hq.below b13,b13⟩
 have HW:Hid (W3=((w.alloc (.cells #[.slice a f.ts.length c,.bool (ratL f.c).neg,.slice an (ratL f.c).num.length cn,.slice ad (ratL f.c).den.length cd] 53)).alloc (.cells #[.bool (ratL q).neg,.slice qn (ratL q).num.length qcn,.slice qd (ratL q).den.length qcd] 51)).alloc (.cells #[.slice none 0 0,.bool false,.slice none 0 0,.slice none 0 0] 53)):=by unfold Hid;rw [hW3,hW2,hW1]
 clear x1 x2 x3 b1 b2 b3 s1 s2 b23 b13 hW1 hW2 hW3 hf hq ht u1 u2 v1 v2 hfb hql hs hcan hRR l1 l2 m1 m2 hcb
 go_enter Tryz.func49,Tryz.ntmps49
 go_upto_region 1 with fail
 rw [<- HW.out];clear HW;obtain ⟨x0,x1,x2,x3,xf,xlt⟩:=HP.out.fb;obtain ⟨z0,z1,z2,zf,zlt⟩:=HP.out.cb;have HM:Hid (Calls Tryz.prog 80 #[.agg #[.bool (ratL f.c).neg,.slice an (ratL f.c).num.length cn,.slice ad (ratL f.c).den.length cd],.agg #[.bool (ratL q).neg,.slice qn (ratL q).num.length qcn,.slice qd (ratL q).den.length qcd]] W3 (RetR W3 (ratL (f.c * q)))):=by
  have h:=r3Mul HP.out.kc.val HP.out.qv HCb.out HQl.out;rw [ratOf_ratL,ratOf_ratL] at h;exact h
 go_wp2_with fail
 refine HM.out.mono ?_
 rintro e w5 ⟨v5,rfl,hv5,hb5⟩;obtain ⟨r1,r2,r3,rfl,hrc5⟩:=RatC.of hv5;have HRc5:=hid hrc5;obtain ⟨bn',bd',dn',dd',rfl,rfl,rfl,_⟩:=hrc5.ex;have hal:=blA w5 (.cells #[.slice none 0 0,.bool (ratL (f.c * q)).neg,.slice bn' (ratL (f.c * q)).num.length dn',.slice bd' (ratL (f.c * q)).den.length dd'] 53);have hT:=Box4.alloc w5 (.slice none 0 0) (.bool (ratL (f.c * q)).neg) (.slice bn' (ratL (f.c * q)).num.length dn') (.slice bd' (ratL (f.c * q)).den.length dd') 53;have hTn:=NoInt.alloc w5 #[.slice none 0 0,.bool (ratL (f.c * q)).neg,.slice bn' (ratL (f.c * q)).num.length dn',.slice bd' (ratL (f.c * q)).den.length dd'] 53 (by simp);have HSc:Hid (ScS W3 (w5.alloc (.cells #[.slice none 0 0,.bool (ratL (f.c * q)).neg,.slice bn' (ratL (f.c * q)).num.length dn',.slice bd' (ratL (f.c * q)).den.length dd'] 53)) w5.heap.size (w5.heap.size+1) (.slice none 0 0) [] (.bool (ratL (f.c * q)).neg) (.slice bn' (ratL (f.c * q)).num.length dn') (.slice bd' (ratL (f.c * q)).den.length dd') (f.c * q)):=
  ⟨hT,hTn,Own4.nil _ _,HRc5.out.below hal,hb5.trans (hal.mono hb5.size),Nat.lt_succ_self _,hb5.size⟩
 clear hv5 hb5 hrc5 HM HRc5 hal hT hTn x0 x1 x2 x3 xf xlt z0 z1 z2 zf zlt
 go_upto_region 2 with fail
 generalize w5.alloc (.cells #[.slice none 0 0,.bool (ratL (f.c * q)).neg,.slice bn' (ratL (f.c * q)).num.length dn',.slice bd' (ratL (f.c * q)).den.length dd'] 53)=W6 at *;obtain ⟨tb,htb⟩:∃ tb,tb=w5.heap.size:=⟨_,rfl⟩
 rw [<- htb] at HSc ⊢;clear htb;go_wp2
 go_loopw [6] (fun i wr=>∃ (j:Nat) (L:List (Nat × Rat)) (aO:Option Addr) (nO cO:Nat),j<=f.ts.length/\i=.int .i64 (j:Int)/\Hid (L=sclT q (f.ts.take j))/\Hid (L.length=nO)/\nO<=j/\Hid (ScS W3 wr tb (tb+1) (.slice aO nO cO) L (.bool (ratL (f.c * q)).neg) (.slice bn' (ratL (f.c * q)).num.length dn') (.slice bd' (ratL (f.c * q)).den.length dd') (f.c * q))) (fun i _=>f.ts.length - (intOf i).toNat)
 case atStart=>exact ⟨0,[],none,0,0,Nat.zero_le _,rfl,rfl,rfl,Nat.le_refl _,HSc.out⟩
 case round=>
  obtain ⟨j,L,aO,nO,cO,hj,rfl,HL,HN,hnj,HS⟩:=hrel;have HPr:=hid (HP.out.below HS.out.bl);obtain ⟨x0,x1,x2,x3,xf,xlt⟩:=HPr.out.fb
  by_cases hlt:j < f.ts.length
  ·obtain ⟨bF,oF,⟨u,p⟩,p0,p1,p2,p3,haF,hbF,hx,e0,e1,e2,e3,rfl,hrc⟩:=HPr.out.tm.pick hlt;simp only at e0 hrc;have HRc:=hid hrc;obtain ⟨an',ad',cn',cd',rfl,rfl,rfl,_⟩:=hrc.ex;have HStep:Hid (sclT q (f.ts.take (j+1))=L++oneT u (p * q)):=by
    unfold Hid;rw [take_snoc hx,sclT_snoc,HL.out]
   obtain ⟨HPl,HPq⟩:=hd2 (HFb.out (u,p) (List.mem_of_getElem? hx)) (HSm.out (u,p) (List.mem_of_getElem? hx));have HMu:Hid (∀ X,Below wr.heap.size wr X->Calls Tryz.prog 80 #[.agg #[.bool (ratL p).neg,.slice an' (ratL p).num.length cn',.slice ad' (ratL p).den.length cd'],.agg #[.bool (ratL q).neg,.slice qn (ratL q).num.length qcn,.slice qd (ratL q).den.length qcd]] X (RetR X (ratL (p * q)))):=fun X hb=>by
    have h:=r3Mul (HRc.out.below hb).val ((HPr.out.below hb).qv) HPl.out HQl.out;rw [ratOf_ratL,ratOf_ratL] at h;exact h
   have HCe:Hid (∀ X,Below wr.heap.size wr X->X.cell? ⟨w.heap.size,0,none⟩=some (.slice (some ⟨bF,oF,none⟩) f.ts.length c)/\w.heap.size < X.heap.size/\X.cell? ⟨w.heap.size+1,0,none⟩=some (.bool (ratL q).neg)/\X.cell? ⟨w.heap.size+1,1,none⟩=some (.slice qn (ratL q).num.length qcn)/\X.cell? ⟨w.heap.size+1,2,none⟩=some (.slice qd (ratL q).den.length qcd)/\w.heap.size+1 < X.heap.size/\
     X.cell? ⟨bF,oF+j * 4,none⟩=some (.int .i64 (u:Int))/\X.cell? ⟨bF,oF+j * 4+1,none⟩=some (.bool (ratL p).neg)/\X.cell? ⟨bF,oF+j * 4+2,none⟩=some (.slice an' (ratL p).num.length cn')/\X.cell? ⟨bF,oF+j * 4+3,none⟩=some (.slice ad' (ratL p).den.length cd')/\bF < X.heap.size/\
     X.cell? ⟨tb,0,none⟩=some (.slice aO nO cO)/\tb < X.heap.size):=fun X hb=>by
    have hP:=HPr.out.below hb;have hS:=HS.out.below hb
    refine ⟨by rw [<- haF];exact hP.fb.c0,hP.fb.lt,hP.cb.c0,hP.cb.c1,hP.cb.c2,hP.cb.lt,(hb.cell hbF).trans e0,(hb.cell hbF).trans e1,(hb.cell hbF).trans e2,(hb.cell hbF).trans e3,Nat.lt_of_lt_of_le hbF hb.size,hS.bx.c0,hS.bx.lt⟩
   rw [haF];rw [haF] at x0;clear hx hrc e0 e1 e2 e3 HPl
   go_upto_region 5 with fail
   clear x0 x1 x2 x3 xf xlt
   refine wp_region_slots_tail 17 (by kernel_rfl) (by kernel_rfl) (by kernel_rfl) (by kernel_rfl) (by decide) (From wr.heap.size wr) (fun w w'=>Below w.heap.size w w') (GQ [.val (.pointer (some ⟨tb,0,none⟩)),.val (.slice aO nO cO),.val (.pointer (some ⟨w.heap.size,0,none⟩)),.val (.slice (some ⟨bF,oF,none⟩) f.ts.length c),.val (.int .i64 (j:Int)),.val (.pointer (some ⟨bF,oF+j * 4,none⟩)),.val (.pointer (some ⟨bF,oF+j * 4,none⟩)),.val (.int .i64 (u:Int)),.val (.pointer (some ⟨w.heap.size,0,none⟩)),.val (.slice (some ⟨bF,oF,none⟩) f.ts.length c),.val (.int .i64 (j:Int)),.val (.pointer (some ⟨bF,oF+j * 4,none⟩)),.val (.pointer (some ⟨bF,oF+j * 4+1,none⟩)),.val (.agg #[.bool (ratL p).neg,.slice an' (ratL p).num.length cn',.slice ad' (ratL p).den.length cd']),.val (.agg #[.bool (ratL q).neg,.slice qn (ratL q).num.length qcn,.slice qd (ratL q).den.length qcd]),.rat (p * q),.trm u (p * q)]) (fun i v w w' h hb=>GQ_below h hb) (From.start (Nat.le_refl _)) ?_ ?_
   ·intro ops;simp only [List.take_succ_cons,List.take_zero,Shows]
    refine ⟨?v0,?v1,?v2,?v3,?v4,?v5,?v6,?v7,?v8,?v9,?v10,?v11,?v12,?v13,?v14,?_,?_,trivial⟩
    all_goals (intro y' X hR hL;have hB:=hR.base;obtain ⟨x0,xlt,k0,k1,k2,klt,e0,e1,e2,e3,elt,t0,tlt⟩:=HCe.out X hR.be;simp only [Laid,Region.binds,forall_const,Bool.false_eq_true,false_implies,GQ,List.getElem?_cons_zero,List.getElem?_cons_succ] at hL;simp [fillFrom,Act.put])
    case v0|v1|v2|v3|v4|v5|v6|v7|v8|v9|v10|v11|v12|v13|v14=>
     try simp only [hL]
     clear hL;have HR:=hid hR;clear hR;go_wp2
     first | refine ⟨_,rfl,?_⟩ | skip
     exact ⟨HR.out,Below.refl _ _,rfl⟩
    ·try simp only [hL]
     clear hL;have HR:=hid hR;clear hR;have HCt:=hid (HMu.out X HR.out.be)
     go_wp2_with fail
     refine HCt.out.mono ?_
     rintro e w1 ⟨v1,rfl,kv,kb⟩;obtain ⟨KV,KB⟩:=hd2 kv kb;clear kv kb HCt;go_wp2
     first | refine ⟨_,rfl,?_⟩ | skip
     exact ⟨⟨Nat.le_trans HR.out.base KB.out.size,HR.out.be.trans (KB.out.mono HR.out.base)⟩,KB.out,KV.out⟩
    ·generalize y' 7=y7 at hL ⊢;generalize y' 15=y15 at hL ⊢;obtain ⟨rfl,H15,_⟩:=hL;obtain ⟨K15,HR⟩:=hd2 H15 hR;clear hR H15;obtain ⟨an',ad',cn',cd',rfl,l1,l2,u1,u2⟩:=K15.out.ex;have HRC:=hid (show RatC X _ _ _ _ from ⟨an',ad',cn',cd',rfl,rfl,rfl,l1,l2,u1,u2⟩);clear u1 u2 K15;go_wp2
     first | refine ⟨_,rfl,?_⟩ | skip
     exact ⟨HR.out,Below.refl _ _,_,_,_,rfl,HRC.out⟩
   ·intro ops y' X hR hL;have hB:=hR.base;have J1:=hL.1.1.1.1.1.1.1.1.1.1.1.1.1.1.1.2;have J16:=hL.2;simp only [GQ,List.getElem?_cons_zero,List.getElem?_cons_succ] at J1 J16;obtain ⟨x0,xlt,k0,k1,k2,klt,e0,e1,e2,e3,elt,t0,tlt⟩:=HCe.out X hR.be;clear hL;simp only [List.take_succ_cons,List.take_zero,List.drop_succ_cons,List.drop_zero];simp [fillFrom,Act.put];generalize y' 1=y1 at J1 ⊢;obtain rfl:=J1;generalize y' 16=y16 at J16 ⊢;have HR:=hid hR;clear hR;obtain ⟨r1,r2,r3,rfl,hrc⟩:=J16;have HSX:=hid (HS.out.below HR.out.be);have HNz:=hid (r7Nonzero (v:=u) HSX.out.own HN.out (Nat.le_trans HSX.out.bx.lt (Nat.le_refl _)) hrc HPq.out (by omega));obtain ⟨an2,ad2,cn2,cd2,rfl,rfl,rfl,_⟩:=hrc.ex;clear hrc x0 xlt k0 k1 k2 klt e0 e1 e2 e3 elt t0 tlt
    go_wp2_with fail
    refine HNz.out.mono ?_
    rintro e w9 ⟨a9,c9,rfl,ho9,hg9,_⟩;obtain ⟨n9,hn9⟩:∃ n9,n9=(L++oneT u (p * q)).length:=⟨_,rfl⟩
    rw [<- hn9] at ho9 ⊢;have hn9b:n9<=j+1:=by have h:=len_one u (p * q);have h2:=HN.out;rw [hn9,List.length_append];omega
    obtain ⟨HN9,HS9⟩:=hd2 hn9 (HSX.out.app ho9 hg9 (by simp));have hb9:=(HSX.out.bx.grown hg9 (fun e=>by have:=(HSX.out.own.lt e).1;omega))
    obtain ⟨t0,t1,t2,t3,tf,tlt⟩:=hb9;clear ho9 hg9 hn9 HNz;go_wp2;go_roundw
    case rel=>exact ⟨j+1,L++oneT u (p * q),a9,n9,c9,hlt,by go_num,HStep.out.symm,HN9.out.symm,hn9b,HS9.out⟩
    case measure=>simp [intOf];omega
  ·obtain rfl:j=f.ts.length:=by omega
   obtain ⟨t0,t1,t2,t3,tf,tlt⟩:=HS.out.bx;obtain ⟨r0,r1,r2,r3,rf,rlt⟩:=HPr.out.rb;have hcc:nO<=cO:=by
    obtain ⟨a2,c2,e2,hcc⟩:=HS.out.own.form;simp only [Value.slice.injEq] at e2;obtain ⟨_,e3,e4⟩:=e2;have:=HN.out;omega
   have hfm:FormV wr (.agg #[.slice aO nO cO,.bool (ratL (f.c * q)).neg,.slice bn' (ratL (f.c * q)).num.length dn',.slice bd' (ratL (f.c * q)).den.length dd']) RR:=by
    rw [HRR.out];have hL:=HL.out;rw [List.take_of_length_le (Nat.le_refl _)] at hL;have hN:=HN.out;subst hL;exact ⟨_,_,_,_,rfl,⟨aO,cO,by rw [hN],by rw [hN];exact hcc,HS.out.own.read (by rw [hN];omega)⟩,HS.out.kc⟩
   have HO:=hid (hfm.ret HPr.out.ra HPr.out.bl (by omega));clear hfm hcc;go_wp2;exact bodyPost_ret (by simp [results,Tryz.results49,go_sem,r0,r1,r2,r3,rlt,Nat.ne_of_lt rlt]) rfl HO.out
theorem can_take:∀ {l:List (Nat × Rat)} {lo:Nat} (j:Nat),CanF l lo->CanF (l.take j) lo
 | [],_,j,_=>by rw [List.take_nil];trivial
 | _::_,_,0,_=>trivial
 | (u,p)::r,lo,j+1,⟨h1,h2,h3⟩=>⟨h1,h2,can_take j h3⟩
theorem coef_take:∀ {l:List (Nat × Rat)} {lo:Nat} (j v:Nat),CanF l lo->coefT (l.take j) v=0 ∨ coefT (l.take j) v=coefT l v
 | [],_,j,v,_=>by rw [List.take_nil];exact .inl rfl
 | _::_,_,0,v,_=>.inl rfl
 | (u,p)::r,lo,j+1,v,⟨_,_,h3⟩=>by
  show (if u=v then p else coefT (r.take j) v)=0 ∨ (if u=v then p else coefT (r.take j) v)=(if u=v then p else coefT r v)
  split
  ·exact .inr rfl
  ·exact coef_take j v h3
theorem foldT_len:∀ (f g:List (Nat × Rat)),(foldT f g).length<=f.length+g.length
 | f,[]=>by simp [foldT]
 | f,(v,q)::r=>by
  show (foldT (insT f v q) r).length<=_
  have h1:=foldT_len (insT f v q) r;have h2:=insT_len f v q;rw [List.length_cons];omega
theorem fold_bd {D B C N j:Nat} {f g:AffQ} (hf:BdF D B N f) (hg:BdF D C N g) (v:Nat):Bd D (B+C) (coefT (foldT f.ts (g.ts.take j)) v):=by
 rw [foldT_coef hf.can (can_take j hg.can) v]
 refine (hf.t v).add ?_
 rcases coef_take j v hg.can with e | e
 ·rw [e];exact Bd.zero hf.pos
 ·rw [e];exact hg.t v
theorem fold_mem {D B C N j:Nat} {f g:AffQ} (hf:BdF D B N f) (hg:BdF D C N g) {t:Nat × Rat} (ht:t ∈ foldT f.ts (g.ts.take j)):Bd D (B+C) t.2:=by
 have h:=fold_bd (j:=j) hf hg t.1
 rwa [(mem_coef (foldT_can hf.can) ht).2] at h
theorem fold_next {D B C N j u:Nat} {f g:AffQ} {p p':Rat} (hf:BdF D B N f) (hg:BdF D C N g) (hx:g.ts[j]? =some (u,p)) (ht:(u,p') ∈ foldT f.ts (g.ts.take j)):Bd D (B+C) (p'+p):=by
 have h:=fold_bd (j:=j+1) hf hg u;rw [take_snoc hx,foldT_snoc,insT_coef u p (foldT_can hf.can),if_pos rfl,(mem_coef (foldT_can hf.can) ht).2] at h;exact h
theorem Pay.b5 {D B:Nat} {q:Rat} (h:Pay D B) (hq:Bd D B q):RatLe (ratL q) 524285:=hq.le h
inductive Sx where
 | val (x:Value)
 | rat (q:Rat)
 | num (s:Value) (q:Rat)
 | new4 (B:Nat)
def GX (L:List Sx) (i:Nat) (v:Value) (w:World):Prop:=
 match L[i]? with
 | some (.val x)=>v=x
 | some (.rat q)=>RatV w v (ratL q)
 | some (.num s q)=>∃ p1 p2 p3,v=.agg #[s,p1,p2,p3]/\RatC w p1 p2 p3 q
 | some (.new4 B)=>∃ b,v=.pointer (some ⟨b,0,none⟩)/\B<=b/\Box4 w b (.slice none 0 0) (.bool false) (.slice none 0 0) (.slice none 0 0)/\AllB isBS w b
 | none=>True
theorem GX_below {L:List Sx} {i:Nat} {v:Value} {w w':World} (h:GX L i v w) (hb:Below w.heap.size w w'):GX L i v w':=by
 unfold GX at h ⊢
 split
 ·rename_i x hx;rw [hx] at h;exact h
 ·rename_i x hx;rw [hx] at h;exact RatV.below h hb
 ·rename_i s x hx;rw [hx] at h;obtain ⟨p1,p2,p3,e,k⟩:=h;exact ⟨p1,p2,p3,e,k.below hb⟩
 ·rename_i x hx;rw [hx] at h;obtain ⟨b,e,l,k1,k2⟩:=h;exact ⟨b,e,l,k1.below hb,k2.below hb k1.lt⟩
 ·trivial
structure CpJ (W1:World) (t0 t1 t2 c1 c2 c3:Value) (n:Nat) (L:List (Nat × Rat)) (d:Nat->Bool) (g:Nat->Value) (W:World):Prop where
 be:Below W1.heap.size W1 W
 v0:d 0=true->d 3=false->∃ b,g 0=.slice (some ⟨b,0,none⟩) 0 0/\W1.heap.size<=b/\W.heap[b]? =some (.cells #[] 84 (0,0))
 v1:d 1=true->g 1=t0
 v2:d 2=true->g 2=t1
 v3:d 3=true->∃ b c,g 3=.slice b n c/\n<=c/\TermsAt W b L
 v4:d 4=true->g 4=t2
 v5:d 5=true->g 5=.agg #[c1,c2,c3]
 c6:d 6=true->d 3=true
 v6:d 6=true->∃ b c,g 6=.agg #[.slice b n c,c1,c2,c3]/\n<=c/\TermsAt W b L
theorem own_row4 {α:Type} {P:World->Value->Value->Value->Value->α->Prop} {T:TypeId} {w:World} {base:Nat} {a:Option Addr} {n c:Nat} {L:List α} {xs:List Value} (ho:w.ownsRow base T 4 (.slice a n c) n xs) (hn:L.length=n) (he:∀ (j:Nat) (x:α),L[j]? =some x->∃ p0 p1 p2 p3,xs[j * 4]? =some p0/\xs[j * 4+1]? =some p1/\xs[j * 4+2]? =some p2/\xs[j * 4+3]? =some p3/\P w p0 p1 p2 p3 x) (hl:L.length<=9223372036854775807):Row4 P w a L:=by
 rcases ho.2 with ⟨e,h0⟩ | ⟨g,cap,cur,e,hb,hg,hnc,hcm,hcs,htake⟩
 ·exact ⟨hl,.inl (List.eq_nil_of_length_eq_zero (by omega))⟩
 ·cases e
  refine ⟨hl,.inr ⟨g,0,rfl,(Array.getElem?_eq_some_iff.1 hg).1,fun j x hj=>?_⟩⟩
  obtain ⟨p0,p1,p2,p3,h0,h1,h2,h3,h4⟩:=he j x hj;have k0:=ho.cells (g:=g) rfl _ _ h0;have k1:=ho.cells (g:=g) rfl _ _ h1;have k2:=ho.cells (g:=g) rfl _ _ h2;have k3:=ho.cells (g:=g) rfl _ _ h3;simp only [Addr.add_lit] at k0 k1 k2 k3;exact ⟨p0,p1,p2,p3,k0,k1,k2,k3,h4⟩
section
variable {W1:World} {t0 t1 t2 c1 c2 c3:Value} {n:Nat} {L:List (Nat × Rat)} {d:Nat->Bool} {g:Nat->Value} {W W':World}
theorem mark_self (d:Nat->Bool) (i:Nat):mark d i i=true:=by unfold mark;rw [if_pos rfl]
theorem upd_self (g:Nat->Value) (i:Nat) (v:Value):upd g i v i=v:=by unfold upd;rw [if_pos rfl]
theorem upd_ne {g:Nat->Value} {i j:Nat} {v:Value} (h:j ≠ i):upd g i v j=g j:=by unfold upd;rw [if_neg h]
theorem CpJ.start (g:Nat->Value):CpJ W1 t0 t1 t2 c1 c2 c3 n L (fun _=>false) g W1.drew:=
 ⟨(Below.refl _ _).drew,(fun h=>by cases h),(fun h=>by cases h),(fun h=>by cases h),(fun h=>by cases h),(fun h=>by cases h),(fun h=>by cases h),(fun h=>by cases h),(fun h=>by cases h)⟩
theorem CpJ.s0 (h:CpJ W1 t0 t1 t2 c1 c2 c3 n L d g W):CpJ W1 t0 t1 t2 c1 c2 c3 n L (mark d 0) (upd g 0 (.slice (some ⟨W.heap.size,0,none⟩) 0 0)) (W.alloc (.cells #[] 84)):=by
 have hal:=blA W (.cells #[] 84)
 refine ⟨h.be.trans (hal.mono h.be.size),fun _ _=>⟨_,upd_self _ _ _,h.be.size,heap_alloc_new W _⟩,fun k=>?_,fun k=>?_,fun k=>?_,fun k=>?_,fun k=>?_,fun k=>?_,fun k=>?_⟩
 ·rw [mark_ne (by decide)] at k;rw [upd_ne (by decide)];exact h.v1 k
 ·rw [mark_ne (by decide)] at k;rw [upd_ne (by decide)];exact h.v2 k
 ·rw [mark_ne (by decide)] at k;rw [upd_ne (by decide)];obtain ⟨b,c,e,l,t⟩:=h.v3 k;exact ⟨b,c,e,l,t.below termK hal⟩
 ·rw [mark_ne (by decide)] at k;rw [upd_ne (by decide)];exact h.v4 k
 ·rw [mark_ne (by decide)] at k;rw [upd_ne (by decide)];exact h.v5 k
 ·rw [mark_ne (by decide)] at k ⊢;exact h.c6 k
 ·rw [mark_ne (by decide)] at k;rw [upd_ne (by decide)];obtain ⟨b,c,e,l,t⟩:=h.v6 k;exact ⟨b,c,e,l,t.below termK hal⟩
theorem CpJ.sv (h:CpJ W1 t0 t1 t2 c1 c2 c3 n L d g W) {i:Nat} {v:Value} (hi:(i=1/\v=t0) ∨ (i=2/\v=t1) ∨ (i=4/\v=t2) ∨ (i=5/\v=.agg #[c1,c2,c3])):CpJ W1 t0 t1 t2 c1 c2 c3 n L (mark d i) (upd g i v) W:=by
 have key:∀ j,j ≠ i->mark d i j=d j/\upd g i v j=g j:=fun j hj=>⟨mark_ne hj,upd_ne hj⟩
 have h0:=key 0 (by omega);have h3:=key 3 (by omega);have h6:=key 6 (by omega)
 refine ⟨h.be,fun k k2=>?_,fun k=>?_,fun k=>?_,fun k=>?_,fun k=>?_,fun k=>?_,fun k=>?_,fun k=>?_⟩
 ·rw [h0.1] at k;rw [h3.1] at k2;rw [h0.2];exact h.v0 k k2
 ·by_cases e:1=i
  ·subst e;rw [upd_self];rcases hi with ⟨e,rfl⟩ | ⟨e,rfl⟩ | ⟨e,rfl⟩ | ⟨e,rfl⟩ <;> first | rfl | (exfalso;omega)
  ·rw [(key 1 e).1] at k;rw [(key 1 e).2];exact h.v1 k
 ·by_cases e:2=i
  ·subst e;rw [upd_self];rcases hi with ⟨e,rfl⟩ | ⟨e,rfl⟩ | ⟨e,rfl⟩ | ⟨e,rfl⟩ <;> first | rfl | (exfalso;omega)
  ·rw [(key 2 e).1] at k;rw [(key 2 e).2];exact h.v2 k
 ·rw [h3.1] at k;rw [h3.2];exact h.v3 k
 ·by_cases e:4=i
  ·subst e;rw [upd_self];rcases hi with ⟨e,rfl⟩ | ⟨e,rfl⟩ | ⟨e,rfl⟩ | ⟨e,rfl⟩ <;> first | rfl | (exfalso;omega)
  ·rw [(key 4 e).1] at k;rw [(key 4 e).2];exact h.v4 k
 ·by_cases e:5=i
  ·subst e;rw [upd_self];rcases hi with ⟨e,rfl⟩ | ⟨e,rfl⟩ | ⟨e,rfl⟩ | ⟨e,rfl⟩ <;> first | rfl | (exfalso;omega)
  ·rw [(key 5 e).1] at k;rw [(key 5 e).2];exact h.v5 k
 ·rw [h6.1] at k;rw [h3.1];exact h.c6 k
 ·rw [h6.1] at k;rw [h6.2];exact h.v6 k
theorem CpJ.s3 (h:CpJ W1 t0 t1 t2 c1 c2 c3 n L d g W) (hd:d 3=false) (hb:Below W1.heap.size W1 W') {b:Option Addr} {c:Nat} (hc:n<=c) (ht:TermsAt W' b L):CpJ W1 t0 t1 t2 c1 c2 c3 n L (mark d 3) (upd g 3 (.slice b n c)) W':=by
 refine ⟨hb,fun _ k2=>?_,fun k=>?_,fun k=>?_,fun _=>⟨b,c,upd_self _ _ _,hc,ht⟩,fun k=>?_,fun k=>?_,fun _=>mark_self _ _,fun k=>?_⟩
 ·rw [mark_self] at k2;cases k2
 ·rw [mark_ne (by decide)] at k;rw [upd_ne (by decide)];exact h.v1 k
 ·rw [mark_ne (by decide)] at k;rw [upd_ne (by decide)];exact h.v2 k
 ·rw [mark_ne (by decide)] at k;rw [upd_ne (by decide)];exact h.v4 k
 ·rw [mark_ne (by decide)] at k;rw [upd_ne (by decide)];exact h.v5 k
 ·rw [mark_ne (by decide)] at k;have:=h.c6 k;rw [hd] at this;cases this
theorem CpJ.s6 (h:CpJ W1 t0 t1 t2 c1 c2 c3 n L d g W) (h3:d 3=true) {b:Option Addr} {c:Nat} (hc:n<=c) (ht:TermsAt W b L):CpJ W1 t0 t1 t2 c1 c2 c3 n L (mark d 6) (upd g 6 (.agg #[.slice b n c,c1,c2,c3])) W:=by
 refine ⟨h.be,fun k k2=>?_,fun k=>?_,fun k=>?_,fun k=>?_,fun k=>?_,fun k=>?_,fun _=>by rw [mark_ne (by decide)];exact h3,fun _=>⟨b,c,upd_self _ _ _,hc,ht⟩⟩
 ·rw [mark_ne (by decide)] at k k2;rw [upd_ne (by decide)];exact h.v0 k k2
 ·rw [mark_ne (by decide)] at k;rw [upd_ne (by decide)];exact h.v1 k
 ·rw [mark_ne (by decide)] at k;rw [upd_ne (by decide)];exact h.v2 k
 ·rw [mark_ne (by decide)] at k;rw [upd_ne (by decide)];exact h.v3 k
 ·rw [mark_ne (by decide)] at k;rw [upd_ne (by decide)];exact h.v4 k
 ·rw [mark_ne (by decide)] at k;rw [upd_ne (by decide)];exact h.v5 k
end
theorem cp_app {W1 W w5:World} {t0 t1 t2 c1 c2 c3 v':Value} {n:Nat} {L:List (Nat × Rat)} {d:Nat->Bool} {g:Nat->Value} {news:List Value} {v:Value} (h:CpJ W1 t0 t1 t2 c1 c2 c3 n L d g W) (hd:d 3=false) (hn:L.length=n) (he:∀ (j:Nat) (x:Nat × Rat),L[j]? =some x->∃ p0 p1 p2 p3,news[j * 4]? =some p0/\news[j * 4+1]? =some p1/\news[j * 4+2]? =some p2/\news[j * 4+3]? =some p3/\TermP W1 p0 p1 p2 p3 x) (hl:n<=500000)
  (hv:W.ownsRow W1.heap.size 84 4 v 0 []) (hown:w5.ownsRow W1.heap.size 84 4 v' (0+n) ([]++news)) (hg:W.grownBy w5 v.ownBlock):CpJ W1 t0 t1 t2 c1 c2 c3 n L (mark d 3) (upd g 3 v') w5:=by
 rw [Nat.zero_add,List.nil_append] at hown;obtain ⟨b,c,rfl,hc⟩:=own_form4 hown;have hb:Below W1.heap.size W1 w5:=h.be.grown hg h.be.size (fun k hk=>(hv.lt k hk).1)
 refine h.s3 hd hb hc (own_row4 hown hn (fun j x hx=>?_) (by omega))
 obtain ⟨p0,p1,p2,p3,e0,e1,e2,e3,e4⟩:=he j x hx;exact ⟨p0,p1,p2,p3,e0,e1,e2,e3,termK.below e4 hb⟩
theorem r7Add {w:World} {vf vg:Value} {f g:AffQ} {D B C N:Nat} (hf:FormV w vf f) (hg:FormV w vg g) (bf:BdF D B N f) (bg:BdF D C N g) (hP:Pay D (B+C)) (hN:N<=250000):
  Calls Tryz.prog 48 #[vf,vg] w (RetAf w (addA 1 f g)):=by
 obtain ⟨PP,hPE,hPP⟩:∃ PP:Prop,PP=Pay D (B+C)/\PP:=⟨_,rfl,hP⟩
 obtain ⟨HPE,HPP⟩:=hd2 hPE hPP;obtain ⟨aF,cF,fan,fad,fcn,fcd,rfl,hcF,htF,l1,l2,u1,u2⟩:=hf.parts;obtain ⟨aG,cG,gan,gad,gcn,gcd,rfl,hcG,htG,m1,m2,v1,v2⟩:=hg.parts;obtain ⟨HBf,HBg⟩:=hd2 bf bg;have hlF:=bf.few;have hlG:=bg.few;obtain ⟨RR,hRR⟩:∃ RR:AffQ,RR=addA 1 f g:=⟨_,rfl⟩
 have HRR:Hid (RR=⟨foldT f.ts g.ts,f.c+g.c⟩):=by
  unfold Hid;rw [hRR];show (⟨addT 1 f.ts g.ts,f.c+1 * g.c⟩:AffQ)=_
  rw [foldT_add bf.can bg.can,Rat.one_mul]
 rw [<- hRR];have HT:=hid (TwoF.mk' w (.slice aF f.ts.length cF) (.bool (ratL f.c).neg) (.slice fan (ratL f.c).num.length fcn) (.slice fad (ratL f.c).den.length fcd) (.slice aG g.ts.length cG) (.bool (ratL g.c).neg) (.slice gan (ratL g.c).num.length gcn) (.slice gad (ratL g.c).den.length gcd) 53);have HF0:Hid (TermsAt w aF f.ts/\RatC w (.bool (ratL f.c).neg) (.slice fan (ratL f.c).num.length fcn) (.slice fad (ratL f.c).den.length fcd) f.c):=⟨htF,fan,fad,fcn,fcd,rfl,rfl,rfl,l1,l2,u1,u2⟩
 have HG0:Hid (TermsAt w aG g.ts/\RatC w (.bool (ratL g.c).neg) (.slice gan (ratL g.c).num.length gcn) (.slice gad (ratL g.c).den.length gcd) g.c):=⟨htG,gan,gad,gcn,gcd,rfl,rfl,rfl,m1,m2,v1,v2⟩
 clear hf hg bf bg hP hPE hPP htF htG u1 u2 v1 v2 hRR l1 l2 m1 m2
 go_enter Tryz.func48,Tryz.ntmps48
 go_upto_region 1 with fail
 generalize ((w.alloc (.cells #[.slice aF f.ts.length cF,.bool (ratL f.c).neg,.slice fan (ratL f.c).num.length fcn,.slice fad (ratL f.c).den.length fcd] 53)).alloc (.cells #[.slice aG g.ts.length cG,.bool (ratL g.c).neg,.slice gan (ratL g.c).num.length gcn,.slice gad (ratL g.c).den.length gcd] 53)).alloc (.cells #[.slice none 0 0,.bool false,.slice none 0 0,.slice none 0 0] 53)=W3 at *;have HAc:Hid (∀ X,Below W3.heap.size W3 X->Calls Tryz.prog 78 #[.agg #[.bool (ratL f.c).neg,.slice fan (ratL f.c).num.length fcn,.slice fad (ratL f.c).den.length fcd],.agg #[.bool (ratL g.c).neg,.slice gan (ratL g.c).num.length gcn,.slice gad (ratL g.c).den.length gcd]] X (RetR X (ratL (f.c+g.c)))):=fun X hb=>by
  have hb2:=HT.out.bl.trans (hb.mono HT.out.bl.size);have hp:=HPP.out;rw [HPE.out] at hp;have h:=r3Add (HF0.out.2.below hb2).val (HG0.out.2.below hb2).val ((hp.b5 (HBf.out.c.mono (by omega))).mono (by decide)) ((hp.b5 (HBg.out.c.mono (by omega))).mono (by decide));rw [ratOf_ratL,ratOf_ratL] at h;exact h
 refine wp_region_slots_tail 9 (by kernel_rfl) (by kernel_rfl) (by kernel_rfl) (by kernel_rfl) (by decide) (From W3.heap.size W3) (fun w w'=>Below w.heap.size w w') (GX [.val (.pointer (some ⟨w.heap.size,0,none⟩)),.val (.slice aF f.ts.length cF),.val (.pointer (some ⟨w.heap.size,1,none⟩)),.val (.agg #[.bool (ratL f.c).neg,.slice fan (ratL f.c).num.length fcn,.slice fad (ratL f.c).den.length fcd]),.val (.pointer (some ⟨w.heap.size+1,1,none⟩)),.val (.agg #[.bool (ratL g.c).neg,.slice gan (ratL g.c).num.length gcn,.slice gad (ratL g.c).den.length gcd]),.rat (f.c+g.c),.num (.slice aF f.ts.length cF) (f.c+g.c),.new4 W3.heap.size]) (fun i v w w' h hb=>GX_below h hb) (From.start (Nat.le_refl _)) ?_ ?_
 ·intro ops;simp only [List.take_succ_cons,List.take_zero,Shows]
  refine ⟨?v0,?v1,?v2,?v3,?v4,?v5,?_,?_,?_,trivial⟩
  all_goals (intro y' X hR hL;have hB:=hR.base;have hT2:=HT.out.below hR.be;obtain ⟨f0,f1,f2,f3,_,ft⟩:=hT2.fb;obtain ⟨g0,g1,g2,g3,_,gt⟩:=hT2.gb;clear hT2;simp only [Laid,Region.binds,forall_const,Bool.false_eq_true,false_implies,GX,List.getElem?_cons_zero,List.getElem?_cons_succ] at hL;simp [fillFrom,Act.put])
  case v0|v1|v2|v3|v4|v5=>
   try simp only [hL]
   clear hL;have HR:=hid hR;clear hR;go_wp2
   first | refine ⟨_,rfl,?_⟩ | skip
   exact ⟨HR.out,Below.refl _ _,rfl⟩
  ·try simp only [hL]
   clear hL;have HR:=hid hR;clear hR;have HCt:=hid (HAc.out X HR.out.be)
   go_wp2_with fail
   refine HCt.out.mono ?_
   rintro e w1 ⟨v1,rfl,kv,kb⟩;obtain ⟨KV,KB⟩:=hd2 kv kb;clear kv kb HCt;go_wp2
   first | refine ⟨_,rfl,?_⟩ | skip
   exact ⟨⟨Nat.le_trans HR.out.base KB.out.size,HR.out.be.trans (KB.out.mono HR.out.base)⟩,KB.out,KV.out⟩
  ·generalize y' 1=y1 at hL ⊢;generalize y' 6=y6 at hL ⊢;obtain ⟨rfl,H6,_⟩:=hL;obtain ⟨K6,HR⟩:=hd2 H6 hR;clear hR H6;obtain ⟨an',ad',cn',cd',rfl,l1,l2,u1,u2⟩:=K6.out.ex;have HRC:=hid (show RatC X _ _ _ _ from ⟨an',ad',cn',cd',rfl,rfl,rfl,l1,l2,u1,u2⟩);clear u1 u2 K6;go_wp2
   first | refine ⟨_,rfl,?_⟩ | skip
   exact ⟨HR.out,Below.refl _ _,_,_,_,rfl,HRC.out⟩
  ·try simp only [hL]
   clear hL;have HR:=hid hR;clear hR;obtain ⟨HK4,HN4,HBa⟩:=hd3 (Box4.alloc X (.slice none 0 0) (.bool false) (.slice none 0 0) (.slice none 0 0) 53) ((ABox.alloc (zer_form X) 53).al) ((Below.refl X.heap.size X).alloc (Nat.le_refl _) (.cells #[.slice none 0 0,.bool false,.slice none 0 0,.slice none 0 0] 53));go_wp2
   first | refine ⟨_,rfl,?_⟩ | skip
   exact ⟨⟨Nat.le_trans HR.out.base HBa.out.size,HR.out.be.trans (HBa.out.mono HR.out.base)⟩,HBa.out,_,rfl,HR.out.base,HK4.out,HN4.out⟩
 ·intro ops y' X hR hL;have hB:=hR.base;have J7:=hL.1.2;have J8:=hL.2;simp only [GX,List.getElem?_cons_zero,List.getElem?_cons_succ] at J7 J8;have hT2:=HT.out.below hR.be;obtain ⟨f0,f1,f2,f3,_,ft⟩:=hT2.fb;obtain ⟨g0,g1,g2,g3,_,gt⟩:=hT2.gb;clear hT2;clear hL;simp only [List.take_succ_cons,List.take_zero,List.drop_succ_cons,List.drop_zero];simp [fillFrom,Act.put];generalize y' 7=y7 at J7 ⊢;generalize y' 8=y8 at J8 ⊢;have HR:=hid hR;clear hR;obtain ⟨r1,r2,r3,rfl,hrc⟩:=J7;obtain ⟨tb,rfl,htb,hbx,hal⟩:=J8;have hbX:Below W3.heap.size W3 X:=HR.out.be;have hbw:=HT.out.bl.trans (hbX.mono HT.out.bl.size);have HAt:=hid (AcF.step (q0:=.slice aF f.ts.length cF) (q1:=r1) (q2:=r2) (q3:=r3) (k:=⟨foldT f.ts (g.ts.take 0),f.c+g.c⟩) (⟨⟨_,_,_,_,⟨hbx,hal,zer_form X⟩⟩,hbX,htb⟩:AcF W3 X tb zerA) (Below.refl X.heap.size X) ⟨⟨aF,cF,rfl,hcF,(HF0.out.1.below termK hbw)⟩,hrc⟩);obtain ⟨an',ad',cn',cd',rfl,rfl,rfl,_⟩:=hrc.ex;obtain ⟨b0,b1,b2,b3,bff,bflt⟩:=hbx;clear hrc hal hbX hbw f0 f1 f2 f3 ft g0 g1 g2 g3 gt HAc
  go_upto_region 2 with fail
  generalize (((X.setCell ⟨tb,0,none⟩ (.slice aF f.ts.length cF)).setCell ⟨tb,1,none⟩ (.bool (ratL (f.c+g.c)).neg)).setCell ⟨tb,2,none⟩ (.slice an' (ratL (f.c+g.c)).num.length cn')).setCell ⟨tb,3,none⟩ (.slice ad' (ratL (f.c+g.c)).den.length cd')=W6 at *;clear b0 b1 b2 b3 bff bflt HR;go_wp2
  go_loopw [6] (fun i wr=>∃ j:Nat,j<=g.ts.length/\i=.int .i64 (j:Int)/\Hid (AcF W3 wr tb ⟨foldT f.ts (g.ts.take j),f.c+g.c⟩)) (fun i _=>g.ts.length - (intOf i).toNat)
  case atStart=>exact ⟨0,Nat.zero_le _,rfl,HAt.out⟩
  case round=>
   obtain ⟨j,hj,rfl,HA⟩:=hrel;obtain ⟨HTr,HB⟩:=hd2 (HT.out.below HA.out.bl) HA.out.bl;have HBw:=hid HTr.out.bl;obtain ⟨g0,g1,g2,g3,gf,glt⟩:=HTr.out.gb
   by_cases hlt:j < g.ts.length
   ·obtain ⟨bF,oF,⟨u,p⟩,p0,p1,p2,p3,haF,hbF,hx,e0,e1,e2,e3,rfl,hrc⟩:=(HG0.out.1.below termK HBw.out).pick hlt;simp only at e0 hrc;have HRc:=hid hrc;obtain ⟨an',ad',cn',cd',rfl,rfl,rfl,_⟩:=hrc.ex;obtain ⟨FJ,hFJ⟩:∃ FJ:AffQ,FJ=⟨foldT f.ts (g.ts.take j),f.c+g.c⟩:=⟨_,rfl⟩
    obtain ⟨FK,hFK⟩:∃ FK:AffQ,FK=⟨foldT f.ts (g.ts.take (j+1)),f.c+g.c⟩:=⟨_,rfl⟩
    have HFK:=hid hFK;have HStep:Hid ((⟨insT FJ.ts u p,FJ.c⟩:AffQ)=FK):=by
     unfold Hid;rw [hFJ,hFK,take_snoc hx,foldT_snoc]
    have HA1:=HA.out;rw [<- hFJ] at HA1;have HA2:=hid HA1;have hlen:FJ.ts.length<=500000:=by
     rw [hFJ];have h:=foldT_len f.ts (g.ts.take j);rw [List.length_take] at h;show (foldT f.ts (g.ts.take j)).length<=500000
     omega
    obtain ⟨sa,sn,sc,sb,san,snn,scn,sad,snd,scd,hbxs⟩:=HA1.spell;have HSf:=hid hbxs.fm.val;have hcan:FJ.Can:=by rw [hFJ];exact foldT_can HBf.out.can
    have HPl:Hid (∀ X,Below wr.heap.size wr X->Calls Tryz.prog 79 #[.agg #[.slice sa sn sc,.bool sb,.slice san snn scn,.slice sad snd scd],.int .i64 (u:Int),.agg #[.bool (ratL p).neg,.slice an' (ratL p).num.length cn',.slice ad' (ratL p).den.length cd']] X (RetAf X FK)):=fun X hb=>by
     have hp:=HPP.out;rw [HPE.out] at hp;have h:=r7Plus (v:=u) (HSf.out.below hb) (HRc.out.below hb).val hcan
      (fun t ht=>by rw [hFJ] at ht;exact (hp.b5 (fold_mem HBf.out HBg.out ht)).mono (by decide)) ((hp.b5 ((HBg.out.mem (List.mem_of_getElem? hx)).mono (by omega))).mono (by decide))
      (fun p' ht=>by rw [hFJ] at ht;exact (hp.b5 (fold_next HBf.out HBg.out hx ht)).mono (by decide)) hlen
     rw [HStep.out] at h;exact h
    have HCe:Hid (∀ X,Below wr.heap.size wr X->X.cell? ⟨tb,0,none⟩=some (.slice sa sn sc)/\X.cell? ⟨tb,1,none⟩=some (.bool sb)/\X.cell? ⟨tb,2,none⟩=some (.slice san snn scn)/\X.cell? ⟨tb,3,none⟩=some (.slice sad snd scd)/\tb < X.heap.size/\
      X.cell? ⟨w.heap.size+1,0,none⟩=some (.slice (some ⟨bF,oF,none⟩) g.ts.length cG)/\w.heap.size+1 < X.heap.size/\
      X.cell? ⟨bF,oF+j * 4,none⟩=some (.int .i64 (u:Int))/\X.cell? ⟨bF,oF+j * 4+1,none⟩=some (.bool (ratL p).neg)/\X.cell? ⟨bF,oF+j * 4+2,none⟩=some (.slice an' (ratL p).num.length cn')/\X.cell? ⟨bF,oF+j * 4+3,none⟩=some (.slice ad' (ratL p).den.length cd')/\bF < X.heap.size):=fun X hb=>by
     have hT:=HTr.out.below hb;have h0:=hbxs.bx.below hb;exact ⟨h0.c0,h0.c1,h0.c2,h0.c3,h0.lt,by rw [<- haF];exact hT.gb.c0,hT.gb.lt,(hb.cell hbF).trans e0,(hb.cell hbF).trans e1,(hb.cell hbF).trans e2,(hb.cell hbF).trans e3,Nat.lt_of_lt_of_le hbF hb.size⟩
    rw [haF];rw [haF] at g0;have HXx:=hid hx;clear hx hrc e0 e1 e2 e3 hbxs HA1 hFJ hFK hcan hlen HA
    go_upto_region 5 with fail
    clear g0 g1 g2 g3 gf glt
    refine wp_region_slots_tail 14 (by kernel_rfl) (by kernel_rfl) (by kernel_rfl) (by kernel_rfl) (by decide) (From wr.heap.size wr) (fun w w'=>Below w.heap.size w w') (GQ [.val (.agg #[.slice sa sn sc,.bool sb,.slice san snn scn,.slice sad snd scd]),.val (.pointer (some ⟨w.heap.size+1,0,none⟩)),.val (.slice (some ⟨bF,oF,none⟩) g.ts.length cG),.val (.int .i64 (j:Int)),.val (.pointer (some ⟨bF,oF+j * 4,none⟩)),.val (.pointer (some ⟨bF,oF+j * 4,none⟩)),.val (.int .i64 (u:Int)),.val (.pointer (some ⟨w.heap.size+1,0,none⟩)),.val (.slice (some ⟨bF,oF,none⟩) g.ts.length cG),.val (.int .i64 (j:Int)),.val (.pointer (some ⟨bF,oF+j * 4,none⟩)),.val (.pointer (some ⟨bF,oF+j * 4+1,none⟩)),.val (.agg #[.bool (ratL p).neg,.slice an' (ratL p).num.length cn',.slice ad' (ratL p).den.length cd']),.frm FK]) (fun i v w w' h hb=>GQ_below h hb) (From.start (Nat.le_refl _)) ?_ ?_
    ·intro ops;simp only [List.take_succ_cons,List.take_zero,Shows]
     refine ⟨?v0,?v1,?v2,?v3,?v4,?v5,?v6,?v7,?v8,?v9,?v10,?v11,?v12,?_,trivial⟩
     all_goals (intro y' X hR hL;have hB:=hR.base;obtain ⟨t0,t1,t2,t3,tlt,g0,glt,e0,e1,e2,e3,elt⟩:=HCe.out X hR.be;simp only [Laid,Region.binds,forall_const,Bool.false_eq_true,false_implies,GQ,List.getElem?_cons_zero,List.getElem?_cons_succ] at hL;simp [fillFrom,Act.put])
     case v0|v1|v2|v3|v4|v5|v6|v7|v8|v9|v10|v11|v12=>
      try simp only [hL]
      clear hL;have HR:=hid hR;clear hR;go_wp2
      first | refine ⟨_,rfl,?_⟩ | skip
      exact ⟨HR.out,Below.refl _ _,rfl⟩
     ·try simp only [hL]
      clear hL;have HR:=hid hR;clear hR;have HCt:=hid (HPl.out X HR.out.be)
      go_wp2_with fail
      refine HCt.out.mono ?_
      rintro e w1 ⟨v1,rfl,kv,kb⟩;obtain ⟨KV,KB⟩:=hd2 kv kb;clear kv kb HCt;go_wp2
      first | refine ⟨_,rfl,?_⟩ | skip
      exact ⟨⟨Nat.le_trans HR.out.base KB.out.size,HR.out.be.trans (KB.out.mono HR.out.base)⟩,KB.out,KV.out⟩
    ·intro ops y' X hR hL;have hB:=hR.base;have J13:=hL.2;simp only [GQ,List.getElem?_cons_zero,List.getElem?_cons_succ] at J13;obtain ⟨t0,t1,t2,t3,tlt,g0,glt,e0,e1,e2,e3,elt⟩:=HCe.out X hR.be;clear hL;simp only [List.take_succ_cons,List.take_zero,List.drop_succ_cons,List.drop_zero];simp [fillFrom,Act.put];generalize y' 13=y13 at J13 ⊢;have HR:=hid hR;clear hR;obtain ⟨ra,rn,rc,rb,ran,rnn,rcn,rad,rnd,rcd,rfl⟩:=J13.spell;have HSt:=hid (HA2.out.step (show Below wr.heap.size wr X from HR.out.be) J13.fp);obtain ⟨_,_,_,_,hbz⟩:=(HA2.out.below (show Below wr.heap.size wr X from HR.out.be)).ex;obtain ⟨s0,s1,s2,s3,sff,slt⟩:=hbz.bx;rw [HFK.out] at HSt;clear J13 hbz t0 t1 t2 t3 tlt g0 glt e0 e1 e2 e3 elt;go_wp2;go_roundw
     case rel=>exact ⟨j+1,hlt,by go_num,HSt.out⟩
     case measure=>simp [intOf];omega
   ·obtain rfl:j=g.ts.length:=by omega
    have hA:=HA.out;rw [List.take_of_length_le (Nat.le_refl _), <- HRR.out] at hA;obtain ⟨sa,sn,sc,sb,san,snn,scn,sad,snd,scd,hbxs⟩:=hA.spell;obtain ⟨⟨a',c',e',hcc,htm⟩,hrc⟩:=hbxs.fm;simp only [Value.slice.injEq] at e';obtain ⟨rfl,e2,rfl⟩:=e';obtain ⟨TS,hTS⟩:∃ TS,TS=RR.ts:=⟨_,rfl⟩
    obtain ⟨KC,hKC⟩:∃ KC,KC=RR.c:=⟨_,rfl⟩
    rw [<- hTS] at htm e2 hcc;rw [<- hKC] at hrc;obtain ⟨news,hsrc,_,hel⟩:=Row4.src termK htm;rw [<- e2] at hsrc hcc;have hsn:sn<=500000:=by
     rw [e2,hTS,HRR.out];have h:=foldT_len f.ts g.ts;show (foldT f.ts g.ts).length<=500000
     omega
    obtain ⟨HSrc,HEl,HRc,HSn,HTS⟩:=hd5 hsrc hel hrc e2.symm (And.intro hTS hKC);have HCe:Hid (∀ X,Below wr.heap.size wr X->X.cell? ⟨tb,0,none⟩=some (.slice sa sn sc)/\X.cell? ⟨tb,1,none⟩=some (.bool sb)/\X.cell? ⟨tb,2,none⟩=some (.slice san snn scn)/\X.cell? ⟨tb,3,none⟩=some (.slice sad snd scd)/\tb < X.heap.size):=fun X hb=>by
     have h0:=hbxs.bx.below hb;exact ⟨h0.c0,h0.c1,h0.c2,h0.c3,h0.lt⟩
    clear hA hbxs htm hrc hsrc hel hTS hKC e2 hcc HA
    go_upto_region 6 with fail
    clear g0 g1 g2 g3 gf glt
    refine wp_region_slots_gen 7 (by kernel_rfl) (by kernel_rfl) (by kernel_rfl) (by kernel_rfl) (by decide) (CpJ wr (.pointer (some ⟨tb,0,none⟩)) (.slice sa sn sc) (.pointer (some ⟨tb,1,none⟩)) (.bool sb) (.slice san snn scn) (.slice sad snd scd) sn TS) (fun g=>CpJ.start g) ?_ ?_
    ·intro ops;simp only [List.take_succ_cons,List.take_zero,ShowsJ]
     refine ⟨?_,?_,?_,?_,?_,?_,?_,trivial⟩
     all_goals (intro d y' X hJ hd hW;simp only [Waits,Region.binds,forall_const,Bool.false_eq_true,false_implies,and_true,true_and] at hW)
     ·have HJ:=hid hJ;clear hJ hW;simp [fillFrom,Act.put];go_wp2
      first | exact ⟨_,rfl,HJ.out.s0⟩ | exact HJ.out.s0
     ·have HJ:=hid hJ;clear hJ hW;simp [fillFrom,Act.put];go_wp2
      first | exact ⟨_,rfl,HJ.out.sv (.inl ⟨rfl,rfl⟩)⟩ | exact HJ.out.sv (.inl ⟨rfl,rfl⟩)
     ·have h1:d 1=true:=by simp only [hW]
      obtain ⟨HJ,HV1⟩:=hd2 hJ (hJ.v1 h1);obtain ⟨t0,t1,t2,t3,tlt⟩:=HCe.out X hJ.be;clear hJ hW h1;simp [fillFrom,Act.put];generalize hy1:y' 1=y1;obtain rfl:=hy1.symm.trans HV1.out;go_wp2
      first | exact ⟨_,rfl,HJ.out.sv (.inr (.inl ⟨rfl,rfl⟩))⟩ | exact HJ.out.sv (.inr (.inl ⟨rfl,rfl⟩))
     ·have h0:d 0=true:=by simp only [hW]
      have h2:d 2=true:=by simp only [hW]
      have HJ:=hid hJ;obtain ⟨bb,e0,hbb,hh⟩:=hJ.v0 h0 hd;obtain ⟨HV0,HV2,HOe,HD⟩:=hd4 e0 (hJ.v2 h2) (own_empty (T:=84) (size:=4) hh hbb) hd;clear e0 hh hbb hd;clear hJ hW h0 h2;simp [fillFrom,Act.put];generalize hy0:y' 0=y0;obtain rfl:=hy0.symm.trans HV0.out;generalize hy2:y' 2=y2;obtain rfl:=hy2.symm.trans HV2.out
      go_wp2_with (at_builtin;go_loud (refine wpList_append_src rfl (.tmp 36) (.tmp 38) 47 47 rfl wr.heap.size 84 (.agg #[.int .i64 0,.bool false,.slice none 0 0,.slice none 0 0]) 4 64 Tryz.underlying47 Tryz.underlying47 (by kernel_rfl) rfl (by omega) (.slice (some ⟨bb,0,none⟩) 0 0) 0 [] rfl HOe.out sa sn sc news rfl (HSrc.out.below HJ.out.be) (by omega) (by unfold maxLen;omega) HJ.out.be.size ?_;intro v' w5 hown hg hnx;have HS3:=hid (cp_app HJ.out HD.out HSn.out HEl.out hsn HOe.out hown hg);obtain ⟨b5,c5,rfl,_⟩:=own_form4 hown;clear hown hg hnx))
      rw [Nat.zero_add] at HS3 ⊢
      first | exact ⟨_,rfl,HS3.out⟩ | exact HS3.out
     ·have HJ:=hid hJ;clear hJ hW;simp [fillFrom,Act.put];go_wp2
      first | exact ⟨_,rfl,HJ.out.sv (.inr (.inr (.inl ⟨rfl,rfl⟩)))⟩ | exact HJ.out.sv (.inr (.inr (.inl ⟨rfl,rfl⟩)))
     ·have h4:d 4=true:=by simp only [hW]
      obtain ⟨HJ,HV4⟩:=hd2 hJ (hJ.v4 h4);obtain ⟨t0,t1,t2,t3,tlt⟩:=HCe.out X hJ.be;clear hJ hW h4;simp [fillFrom,Act.put];generalize hy4:y' 4=y4;obtain rfl:=hy4.symm.trans HV4.out;go_wp2
      first | exact ⟨_,rfl,HJ.out.sv (.inr (.inr (.inr ⟨rfl,rfl⟩)))⟩ | exact HJ.out.sv (.inr (.inr (.inr ⟨rfl,rfl⟩)))
     ·have h3:d 3=true:=by simp only [hW]
      have h5:d 5=true:=by simp only [hW]
      have HJ:=hid hJ;obtain ⟨b3,c3,e3,l3,tm3⟩:=hJ.v3 h3;obtain ⟨HV3,HV5,HTm,HH3⟩:=hd4 e3 (hJ.v5 h5) tm3 h3;clear e3 tm3;clear hJ hW h3 h5;simp [fillFrom,Act.put];generalize hy3:y' 3=y3;generalize hy5:y' 5=y5;obtain rfl:=hy3.symm.trans HV3.out;obtain rfl:=hy5.symm.trans HV5.out;go_wp2
      first | exact ⟨_,rfl,HJ.out.s6 HH3.out l3 HTm.out⟩ | exact HJ.out.s6 HH3.out l3 HTm.out
    ·intro ops d y' X hA hJ;obtain ⟨b6,c6,e6,l6,tm6⟩:=hJ.v6 (hA 6 (by decide));obtain ⟨HV6,HBX⟩:=hd2 e6 hJ.be;have hTX:=HTr.out.below hJ.be;have hfm:FormV X (.agg #[.slice b6 sn c6,.bool sb,.slice san snn scn,.slice sad snd scd]) RR:=⟨_,_,_,_,rfl,⟨b6,c6,by rw [<- HTS.out.1,HSn.out],by rw [<- HTS.out.1,HSn.out];exact l6,by rw [<- HTS.out.1];exact tm6⟩,by rw [<- HTS.out.2];exact HRc.out.below hJ.be⟩
     have HO:=hid (hfm.ret hTX.nr hTX.bl (by omega));obtain ⟨r0,r1,r2,r3,rf,rlt⟩:=hTX.rb;clear e6 tm6 hJ hA hTX hfm;simp only [List.take_succ_cons,List.take_zero,List.drop_succ_cons,List.drop_zero];simp [fillFrom,Act.put];generalize hy6:y' 6=y6;obtain rfl:=hy6.symm.trans HV6.out;go_wp2;exact bodyPost_ret (by simp [results,Tryz.results48,go_sem,r0,r1,r2,r3,rlt,Nat.ne_of_lt rlt]) rfl HO.out
end Go.Proofs.YtfgmmghmmfmdgaaGreat
