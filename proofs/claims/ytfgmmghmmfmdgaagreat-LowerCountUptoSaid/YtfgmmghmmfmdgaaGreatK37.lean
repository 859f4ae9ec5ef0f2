/-
  Contracts of the functions that the statement reaches: LinW, LinY, LinZ, LjA.
-/
import Derived.Test.YtfgmmghmmfmdgaaGreatK36
set_option linter.all false
set_option maxRecDepth 100000
set_option maxHeartbeats 3200000
namespace Go.Proofs.YtfgmmghmmfmdgaaGreat
open Go.RowKit
open Go.Lib (hid)
theorem BdF.greatB {D B N:Nat} (hD:0 < D) (hB:1<=B) (nI:Nat):∀ (fuel:Nat) (U l:List AffQ),BdFs D B N l->1<=l.length->l.length<=fuel->nI+U.length+(l.length - 1)<=N->BdF D (B+fuel) N (greatF nI fuel U l).2
 | 0,U,l,_,h1,h2,_=>by omega
 | fuel+1,U,l,hl,h1,h2,hN=>by
  by_cases hc:l.length<=1
  ·rw [greatF_one (by omega)];exact (hl.at hD 0).mono (by omega) (Nat.le_refl _)
  ·have t1:(l.take ((l.length+1) / 2)).length=(l.length+1) / 2:=by rw [List.length_take];omega
   have t2:(l.drop ((l.length+1) / 2)).length=l.length - (l.length+1) / 2:=List.length_drop;have a2:=BdF.greatB hD hB nI fuel U (l.take ((l.length+1) / 2)) (fun f hf=>hl f (List.mem_of_mem_take hf)) (by omega) (by omega) (by omega);have c1:=(greatF_len nI fuel U (l.take ((l.length+1) / 2)) (by omega) (by omega))
   have b2:=BdF.greatB hD hB nI fuel (greatF nI fuel U (l.take ((l.length+1) / 2))).1 (l.drop ((l.length+1) / 2)) (fun f hf=>hl f (List.mem_of_mem_drop hf)) (by omega) (by omega) (by omega);have c2:=(greatF_len nI fuel (greatF nI fuel U (l.take ((l.length+1) / 2))).1 (l.drop ((l.length+1) / 2)) (by omega) (by omega))
   rw [greatF_more (by omega) rfl rfl];exact (a2.add (BdF.var (B:=1) hD (by omega) (by omega))).mono (by omega) (Nat.le_refl _)
def unitV (gG:Nat):Value:=.func (.func 33) #[] #[.pointer (some ⟨gG,0,none⟩)]
theorem lMaximum {gL gG n D B N e:Nat} {S:LowV} (hfu:S.fu=unitV gG) (hn:n<=1000000) (hD:0 < D) (hB:1<=B) (hN:N<=500000) (hP:Pay D (2 * (B+e))):∀ (m:Nat) (w:World) (U l:List AffQ) (a:Option Addr) (c:Nat),m<=e->LoBox w gL S->LSt w gG n U->FRow gG w a l->BdFs D B N l->
  1<=l.length->l.length<=m->n+U.length+(l.length - 1)<=N->l.length<=c->
  Calls Tryz.prog 58 #[.pointer (some ⟨gL,0,none⟩),.slice a l.length c] w (UnAf gG n w (greatF n m U l).1 (greatF n m U l).2):=by
 obtain ⟨PP,hPE,hPP⟩:∃ PP:Prop,PP=Pay D (2 * (B+e))/\PP:=⟨_,rfl,hP⟩
 obtain ⟨HPE,HPP⟩:=hd2 hPE hPP;clear hP hPE hPP;intro m
 induction m with
 | zero=>intro w U l a c _ _ _ _ _ h1 h2 _ _;omega
 | succ m ih=>
  intro w U l a c hme hBx hL hR hBd h1 h2 hU hc;have IH:=hid ih;clear ih;have x1:=ABox.alloc (zer_form w) 53;have b1:=blA w (.cells #[.slice none 0 0,.bool false,.slice none 0 0,.slice none 0 0] 53);have s1:(w.alloc (.cells #[.slice none 0 0,.bool false,.slice none 0 0,.slice none 0 0] 53)).heap.size=w.heap.size+1:=by simp
  obtain ⟨W1,hW1⟩:∃ W1,W1=w.alloc (.cells #[.slice none 0 0,.bool false,.slice none 0 0,.slice none 0 0] 53):=⟨_,rfl⟩
  rw [<- hW1] at x1 b1 s1;obtain ⟨HW,HX1,HS1,HL1⟩:=hd4 hW1 x1 (Stp.of b1 hL.lt) (hL.below b1);obtain ⟨HR1,HB1,HF1,HBd,HU,Hge⟩:=hd6 (hR.stp hL HS1.out) (hBx.below b1) (hL.fresh b1 (Nat.le_refl _) (by omega)) hBd hU (s1);clear hW1 x1 hBx hR hBd hU s1 b1
  by_cases hone:l.length=1
  ·have hd:decide ((l.length:Int)=1)=true:=by simp;omega
   obtain ⟨b,off,x,p0,p1,p2,p3,rfl,hb,hx,c0,c1,c2,c3,hp⟩:=HR1.out.at'.pick (k:=0) (by omega);obtain ⟨ya,yn,yc,yb,yan,ynn,ycn,yad,ynd,ycd,rfl,rfl,rfl,rfl⟩:=hp.spell;simp only [Nat.zero_mul,Nat.add_zero] at c0 c1 c2 c3;have hx0:l.getD 0 zerA=x:=by rw [List.getD_eq_getElem?_getD,hx];rfl
   have HO:=hid (UnAf.ret (w:=w) hp.val HL1.out HX1.out.al HF1.out HS1.out (Nat.le_refl _));rw [greatF_one hone,hx0];have HX:=hid hx;obtain ⟨r0,r1,r2,r3,rf,rlt⟩:=HX1.out.bx;clear hx hx0 hp
   go_enter Tryz.func58,Tryz.ntmps58
   go_upto_region 1 with fail
   rw [<- HW.out];clear HW;go_wp2;exact bodyPost_ret (by simp [results,Tryz.results58,go_sem,r0,r1,r2,r3,rlt,Nat.ne_of_lt rlt]) rfl HO.out
  ·have hd:decide ((l.length:Int)=1)=false:=by simp;omega
   obtain ⟨hh,hhe⟩:∃ hh,hh=(l.length+1) / 2:=⟨_,rfl⟩
   obtain ⟨hh1,hh2,hh3⟩:1<=hh/\hh < l.length/\l.length - hh<=hh:=by omega
   have hl5:l.length<=500001:=by have:=HU.out;omega
   have hhe':=hid hhe;clear hhe;obtain ⟨U1,fa,hga⟩:∃ U1 fa,greatF n m U (l.take hh)=(U1,fa):=⟨_,_,rfl⟩
   obtain ⟨U2,fb,hgb⟩:∃ U2 fb,greatF n m U1 (l.drop hh)=(U2,fb):=⟨_,_,rfl⟩
   have t1:(l.take hh).length=hh:=by rw [List.length_take];omega
   have t2:(l.drop hh).length=l.length - hh:=List.length_drop;have hBt:BdFs D B N (l.take hh):=fun f hf=>HBd.out f (List.mem_of_mem_take hf)
   have hBdr:BdFs D B N (l.drop hh):=fun f hf=>HBd.out f (List.mem_of_mem_drop hf)
   have e1:=greatF_len n m U (l.take hh) (by omega) (by omega);rw [hga] at e1;have e1:U1.length=U.length+(hh - 1):=by rw [t1] at e1;exact e1
   have e2:=greatF_len n m U1 (l.drop hh) (by omega) (by omega);rw [hgb] at e2;have e2:U2.length=U1.length+(l.length - hh - 1):=by rw [t2] at e2;exact e2
   have hmore:greatF n (m+1) U l=(U2++[addA (-1) fb fa],addA 1 fa (varA (n+U2.length))):=greatF_more (by omega) (by rw [<- hhe'.out];exact hga) (by rw [<- hhe'.out];exact hgb);have ba:=BdF.greatB hD hB n m U (l.take hh) hBt (by omega) (by omega) (by have:=HU.out;omega);rw [hga] at ba;have bb:=BdF.greatB hD hB n m U1 (l.drop hh) hBdr (by omega) (by omega) (by have:=HU.out;omega);rw [hgb] at bb;have hUv:n+U2.length < N:=by have:=HU.out;omega
   obtain ⟨b,off,rfl⟩:∃ b off,a=some ⟨b,off,none⟩:=by
    obtain ⟨b,off,_,_,_,_,_,h,_⟩:=HR1.out.at'.pick (k:=0) (by omega);exact ⟨b,off,h⟩
   have HA:=IH.out W1 U (l.take hh) (some ⟨b,off,none⟩) c (by omega) HB1.out HL1.out (HR1.out.take hh) hBt (by omega) (by omega) (by have:=HU.out;omega) (by omega);rw [t1,hga] at HA;have HCA:=hid HA;obtain ⟨f,hf⟩:∃ f,f=addA (-1) fb fa:=⟨_,rfl⟩
   obtain ⟨R,hR'⟩:∃ R,R=addA 1 fa (varA (n+U2.length)):=⟨_,rfl⟩
   rw [<- hf, <- hR'] at hmore;rw [hmore];obtain ⟨HHf,HHR,HBa,HBb,HBdr,HT2⟩:=hd6 hf hR' ba bb hBdr t2;obtain ⟨HGb,HE1,HE2⟩:=hd3 hgb e1 e2;clear HA hBt hBdr ba bb hf hR' hmore t1 t2 hga hgb e1 e2
   go_enter Tryz.func58,Tryz.ntmps58
   go_upto_region 1 with fail
   rw [<- HW.out];clear HW
   go_upto_region 4 with fail
   have hq:((l.length:Int)+1) / 2=(hh:Int):=by have:=hhe'.out;omega
   simp only [hq];clear hq;have hhc:hh<=c:=by omega
   have hhI:(hh:Int)<=(c:Int):=by omega
   have hh0:(0:Int)<=(hh:Int):=by omega
   go_wp2_with fail
   refine HCA.out.mono ?_
   rintro e w2 ⟨v2,rfl,hv2,hl2,hs2⟩;obtain ⟨aa,an,ac,ab,aan,ann,acn,aad,annd,acd,rfl⟩:=hv2.spell;have al2:=blA w2 (.cells #[.slice aa an ac,.bool ab,.slice aan ann acn,.slice aad annd acd] 53);obtain ⟨HXA,HFA,HL2,HS2⟩:=hd4 (ABox.alloc hv2.fp 53) (hl2.fresh al2 (Nat.le_refl _) (by simp)) (hl2.below al2) (hs2.trans (Stp.of al2 hl2.lt));obtain ⟨HX2,HF2,HR2,HB2,HSw2⟩:=hd5 (HX1.out.stp HL1.out HS2.out HF1.out) (HF1.out.stp HS2.out) (HR1.out.stp HL1.out HS2.out) (HB1.out.stp HL1.out HS2.out) (HS1.out.trans HS2.out);clear hv2 hl2 hs2 al2 HCA HX1 HF1 HR1 HB1
   go_upto_region 5 with fail
   generalize w2.alloc (.cells #[.slice aa an ac,.bool ab,.slice aan ann acn,.slice aad annd acd] 53)=Wg at *;have hne:¬ c=hh:=by omega
   have HA:=IH.out Wg U1 (l.drop hh) (some ⟨b,off+hh * 4,none⟩) (c - hh) (by omega) HB2.out HL2.out (HR2.out.drop hh) HBdr.out (by rw [HT2.out];omega) (by rw [HT2.out];omega) (by rw [HT2.out,HE1.out];have:=HU.out;omega) (by rw [HT2.out];omega);rw [HT2.out,HGb.out] at HA;have HCB:=hid HA;have hlI:(hh:Int)<=(l.length:Int):=by omega
   have hlN:hh<=l.length:=by omega
   clear HA
   go_wp2_with fail
   refine HCB.out.mono ?_
   rintro e w4 ⟨v4,rfl,hv4,hl4,hs4⟩;obtain ⟨ba,bn,bc,bb,ban,bnn,bcn,bad,bnd,bcd,rfl⟩:=hv4.spell;have al4:=blA w4 (.cells #[.slice ba bn bc,.bool bb,.slice ban bnn bcn,.slice bad bnd bcd] 53);obtain ⟨HXB,HL4,HS4⟩:=hd3 (ABox.alloc hv4.fp 53) (hl4.below al4) (hs4.trans (Stp.of al4 hl4.lt));obtain ⟨HXA4,HFA4,HFB4,HX4,HF4,HB4⟩:=hd6 (HXA.out.stp HL2.out HS4.out HFA.out) (HFA.out.stp HS4.out) (hl4.fresh al4 (Nat.le_refl _) (by simp)) (HX2.out.stp HL2.out HS4.out HF2.out) (HF2.out.stp HS4.out) (HB2.out.stp HL2.out HS4.out);have HSw4:=hid (HSw2.out.trans HS4.out);clear hv4 hl4 hs4 al4 HCB HX2 HF2 HR2 HB2 HXA HFA HSw2
   go_upto_region 6 with fail
   generalize w4.alloc (.cells #[.slice ba bn bc,.bool bb,.slice ban bnn bcn,.slice bad bnd bcd] 53)=Wh at *;have hLh:=HL4.out;have HCe:Hid (∀ X,Stp gG Wh X->X.cell? ⟨w2.heap.size,0,none⟩=some (.slice aa an ac)/\X.cell? ⟨w2.heap.size,1,none⟩=some (.bool ab)/\X.cell? ⟨w2.heap.size,2,none⟩=some (.slice aan ann acn)/\X.cell? ⟨w2.heap.size,3,none⟩=some (.slice aad annd acd)/\
     X.cell? ⟨w4.heap.size,0,none⟩=some (.slice ba bn bc)/\X.cell? ⟨w4.heap.size,1,none⟩=some (.bool bb)/\X.cell? ⟨w4.heap.size,2,none⟩=some (.slice ban bnn bcn)/\X.cell? ⟨w4.heap.size,3,none⟩=some (.slice bad bnd bcd)/\
     X.cell? ⟨gL,12,none⟩=some (.func (.func 33) #[] #[.pointer (some ⟨gG,0,none⟩)])):=fun X hs=>
    ⟨(HFA4.out.cell hs).trans HXA4.out.bx.c0, (HFA4.out.cell hs).trans HXA4.out.bx.c1, (HFA4.out.cell hs).trans HXA4.out.bx.c2, (HFA4.out.cell hs).trans HXA4.out.bx.c3,
      (HFB4.out.cell hs).trans HXB.out.bx.c0,(HFB4.out.cell hs).trans HXB.out.bx.c1,(HFB4.out.cell hs).trans HXB.out.bx.c2,(HFB4.out.cell hs).trans HXB.out.bx.c3,by rw [((HB4.out.fre HL4.out).cell hs).trans HB4.out.f12,hfu];rfl⟩
   have HSub:Hid (∀ X,Stp gG Wh X->Calls Tryz.prog 91 #[.agg #[.slice ba bn bc,.bool bb,.slice ban bnn bcn,.slice bad bnd bcd],.agg #[.slice aa an ac,.bool ab,.slice aan ann acn,.slice aad annd acd]] X (RetAf X f)):=fun X hs=>by
    rw [HHf.out]
    refine lSub (HXB.out.fm.val.stp HL4.out hs) (HXA4.out.fm.val.stp HL4.out hs) HBb.out HBa.out (D:=D) (N:=N) ?_ hN
    have h:=HPP.out;rw [HPE.out] at h;exact h.le (Nat.le_refl _) (by omega)
   have HUn:Hid (∀ X z,LSt X gG n U2->FormV X z f->Calls Tryz.prog 33 #[z,.pointer (some ⟨gG,0,none⟩)] X (UnAf gG n X (U2++[f]) (varA (n+U2.length)))):=fun X z hl hz=>lUnit hl hz hn (by omega)
   have HAdd:Hid (∀ X,Stp gG Wh X->∀ z,FormV X z (varA (n+U2.length))->Calls Tryz.prog 60 #[.agg #[.slice aa an ac,.bool ab,.slice aan ann acn,.slice aad annd acd],z] X (RetAf X R)):=fun X hs z hz=>by
    rw [HHR.out]
    refine lAdd (HXA4.out.fm.val.stp HL4.out hs) hz HBa.out (BdF.var (D:=D) (B:=1) (N:=N) hD (Nat.le_refl _) (by omega)) ?_ hN
    have h:=HPP.out;rw [HPE.out] at h;exact h.le (Nat.le_refl _) (by omega)
   obtain ⟨V,hV⟩:∃ V,V=varA (n+U2.length):=⟨_,rfl⟩
   rw [<- hV] at HUn HAdd;have hga:=Nat.lt_of_lt_of_le HFA4.out.lt (Nat.le_refl _);have hgb:=HFB4.out.lt
   refine wp_region_slots_gen 10 (by kernel_rfl) (by kernel_rfl) (by kernel_rfl) (by kernel_rfl) (by decide) (AllU gG n Wh U2 (U2++[f]) 8 [.val (.agg #[.slice aa an ac,.bool ab,.slice aan ann acn,.slice aad annd acd]),.val (.pointer (some ⟨gL,0,none⟩)),.val (.pointer (some ⟨gL,0,none⟩)),.val (.pointer (some ⟨gL,12,none⟩)),.val (.func (.func 33) #[] #[.pointer (some ⟨gG,0,none⟩)]),.val (.agg #[.slice ba bn bc,.bool bb,.slice ban bnn bcn,.slice bad bnd bcd]),.val (.agg #[.slice aa an ac,.bool ab,.slice aan ann acn,.slice aad annd acd]),.frm f,.frm V,.frm R]) (fun g=>AllU.start (by assumption) g) ?_ ?_
   ·intro ops;simp only [List.take_succ_cons,List.take_zero,ShowsJ]
    refine ⟨?v0,?v1,?_,?_,?_,?v5,?v6,?_,?_,?_,trivial⟩
    all_goals (intro d y' X hJ hd hW;have hS:=hJ.st;obtain ⟨a0,a1,a2,a3,b0,b1,b2,b3,f12⟩:=HCe.out X hJ.st;have hxa:=Nat.lt_of_lt_of_le hga hJ.st.size;have hxb:=Nat.lt_of_lt_of_le hgb hJ.st.size;simp only [Waits,Region.binds,forall_const,Bool.false_eq_true,false_implies,and_true,true_and] at hW)
    case v0|v1|v5|v6=>
     simp [fillFrom,Act.put];have HJ:=hid hJ;clear hJ hd hW;go_wp2
     first | refine ⟨_,rfl,?_⟩ | refine ⟨rfl,_,?_⟩ | skip
     exact HJ.out.here (by decide) rfl
    ·have h1:d 1=true:=by simp only [hW]
     have J1:=hJ.all 1 h1;simp only [GU,List.getElem?_cons_zero,List.getElem?_cons_succ] at J1;simp [fillFrom,Act.put];generalize hg1:y' 1=y1;rw [hg1] at J1;clear hg1;obtain rfl:=J1;have HJ:=hid hJ;clear hJ hd hW h1;go_wp2
     first | refine ⟨_,rfl,?_⟩ | refine ⟨rfl,_,?_⟩ | skip
     exact HJ.out.here (by decide) rfl
    ·have h2:d 2=true:=by simp only [hW]
     have J2:=hJ.all 2 h2;simp only [GU,List.getElem?_cons_zero,List.getElem?_cons_succ] at J2;simp [fillFrom,Act.put];generalize hg2:y' 2=y2;rw [hg2] at J2;clear hg2;obtain rfl:=J2;have HJ:=hid hJ;clear hJ hd hW h2;go_wp2
     first | refine ⟨_,rfl,?_⟩ | refine ⟨rfl,_,?_⟩ | skip
     exact HJ.out.here (by decide) rfl
    ·have h3:d 3=true:=by simp only [hW]
     have J3:=hJ.all 3 h3;simp only [GU,List.getElem?_cons_zero,List.getElem?_cons_succ] at J3;simp [fillFrom,Act.put];generalize hg3:y' 3=y3;rw [hg3] at J3;clear hg3;obtain rfl:=J3;have HJ:=hid hJ;clear hJ hd hW h3;go_wp2
     first | refine ⟨_,rfl,?_⟩ | refine ⟨rfl,_,?_⟩ | skip
     exact HJ.out.here (by decide) rfl
    ·have h5:d 5=true:=by simp only [hW]
     have h6:d 6=true:=by simp only [hW]
     have J5:=hJ.all 5 h5;have J6:=hJ.all 6 h6;simp only [GU,List.getElem?_cons_zero,List.getElem?_cons_succ] at J5 J6;simp [fillFrom,Act.put];generalize hg5:y' 5=y5;rw [hg5] at J5;generalize hg6:y' 6=y6;rw [hg6] at J6;clear hg5;obtain rfl:=J5;clear hg6;obtain rfl:=J6;have HJ:=hid hJ;clear hJ hd hW h5 h6;have HCt:=hid (HSub.out X HJ.out.st)
     go_wp2_with fail
     refine HCt.out.mono ?_
     rintro e w1 ⟨v1,rfl,kv,kb⟩;obtain ⟨KV,KB⟩:=hd2 kv kb;clear kv kb HCt;go_wp2
     first | exact ⟨_,rfl,HJ.out.step (by decide) KB.out KV.out⟩ | exact HJ.out.step (by decide) KB.out KV.out
    ·have h4:d 4=true:=by simp only [hW]
     have h7:d 7=true:=by simp only [hW]
     have J4:=hJ.all 4 h4;have J7:=hJ.all 7 h7;simp only [GU,List.getElem?_cons_zero,List.getElem?_cons_succ] at J4 J7;simp [fillFrom,Act.put];generalize hg4:y' 4=y4;rw [hg4] at J4;generalize hg7:y' 7=y7;rw [hg7] at J7;clear hg4;obtain rfl:=J4;clear hg7;have K7:=hid J7;clear J7;obtain ⟨HJ,HUnn⟩:=hd2 hJ (hJ.old hd);clear hJ hd hW h4 h7;have HCt:=hid (HUn.out X _ HUnn.out K7.out)
     go_wp2_with fail
     refine HCt.out.mono ?_
     rintro e w1 ⟨v1,rfl,kv,kl,kb⟩;obtain ⟨KV,KL,KB⟩:=hd3 kv kl kb;clear kv kl kb HCt;go_wp2
     first | exact ⟨_,rfl,HJ.out.unit KL.out KB.out KV.out⟩ | exact HJ.out.unit KL.out KB.out KV.out
    ·have h0:d 0=true:=by simp only [hW]
     have h8:d 8=true:=by simp only [hW]
     have J0:=hJ.all 0 h0;have J8:=hJ.all 8 h8;simp only [GU,List.getElem?_cons_zero,List.getElem?_cons_succ] at J0 J8;simp [fillFrom,Act.put];generalize hg0:y' 0=y0;rw [hg0] at J0;generalize hg8:y' 8=y8;rw [hg8] at J8;clear hg0;obtain rfl:=J0;clear hg8;have K8:=hid J8;clear J8;have HJ:=hid hJ;clear hJ hd hW h0 h8;have HCt:=hid (HAdd.out X HJ.out.st _ K8.out)
     go_wp2_with fail
     refine HCt.out.mono ?_
     rintro e w1 ⟨v1,rfl,kv,kb⟩;obtain ⟨KV,KB⟩:=hd2 kv kb;clear kv kb HCt;go_wp2
     first | exact ⟨_,rfl,HJ.out.step (by decide) KB.out KV.out⟩ | exact HJ.out.step (by decide) KB.out KV.out
   ·intro ops d y' X hA hJ;have J9:=hJ.all 9 (hA 9 (by decide));simp only [GU,List.getElem?_cons_zero,List.getElem?_cons_succ] at J9;have hS:=hJ.st;obtain ⟨a0,a1,a2,a3,b0,b1,b2,b3,f12⟩:=HCe.out X hJ.st;have hxa:=Nat.lt_of_lt_of_le hga hJ.st.size;have hxb:=Nat.lt_of_lt_of_le hgb hJ.st.size;obtain ⟨HLn,HSn⟩:=hd2 (hJ.new (hA 8 (by decide))) hJ.st;clear hJ hA;simp only [List.take_succ_cons,List.take_zero,List.drop_succ_cons,List.drop_zero];simp [fillFrom,Act.put];generalize y' 9=y9 at J9 ⊢;obtain ⟨ra,rn,rc,rb,ran,rnn,rcn,rad,rnd,rcd,rfl⟩:=J9.spell;obtain ⟨HX9,HF9⟩:=hd2 (HX4.out.stp HL4.out HSn.out HF4.out) (HF4.out.stp HSn.out);have HO:=hid (UnAf.ret (w:=w) J9 HLn.out HX9.out.al HF9.out (HSw4.out.trans HSn.out) (Nat.le_refl _));obtain ⟨r0,r1,r2,r3,rf,rlt⟩:=HX9.out.bx;clear J9;go_wp2;exact bodyPost_ret (by simp [results,Tryz.results58,go_sem,r0,r1,r2,r3,rlt,Nat.ne_of_lt rlt]) rfl HO.out
theorem ub_grown {w w':World} {gG n:Nat} {U:List AffQ} {v:Value} (h:LSt w gG n U) (hg:w.grownBy w' v.ownBlock) (hf:∀ b,v.ownBlock=some b->Fre gG w b):ub w' gG=ub w gG/\w'.heap[gG]? =w.heap[gG]? :=by
 have e:w'.heap[gG]? =w.heap[gG]? :=hg.block gG h.lt (fun e=>(hf gG e.symm).ne rfl);exact ⟨by unfold ub;rw [World.cell?_of_block (a:=⟨gG,1,none⟩) e],e⟩
theorem LSt.grown {w w':World} {gG n:Nat} {U:List AffQ} {v:Value} (h:LSt w gG n U) (hg:w.grownBy w' v.ownBlock) (hf:∀ b,v.ownBlock=some b->Fre gG w b) (ha:AllO isBS w v):LSt w' gG n U:=by
 obtain ⟨_,he⟩:=ub_grown h hg hf;obtain ⟨g0,⟨a,c,h1,ho⟩,g2,g3,fz,lt⟩:=h;have k:∀ o,w'.cell? ⟨gG,o,none⟩=w.cell? ⟨gG,o,none⟩:=fun o=>World.cell?_of_block he
 have hne:∀ g,(Value.slice a U.length c).ownBlock=some g->w'.heap[g]? =w.heap[g]? :=fun g e=>hg.block g (ho.lt e).2 (fun e2=>(hf g e2.symm).nu (by unfold ub;rw [h1];exact e))
 refine ⟨(k 0).trans g0,⟨a,c,(k 1).trans h1,⟨?_,?_⟩⟩,(k 2).trans g2,fun o ho=>(k o).trans (g3 o ho),fun o=>(World.frozen?_of_block he).trans (fz o),Nat.lt_of_lt_of_le lt hg.size⟩
 ·obtain ⟨xs,hx,hel⟩:=ho.ex
  refine ⟨xs,⟨hx.1,?_⟩,fun j x hj=>?_⟩
  ·rcases hx.2 with k | ⟨g,cap,cur,e1,k1,k2,k3⟩
   ·exact .inl k
   ·exact .inr ⟨g,cap,cur,e1,k1,(hne g (by rw [e1];rfl)).trans k2,k3⟩
  ·obtain ⟨p0,p1,p2,p3,h0,h1',h2,h3,h4⟩:=hel j x hj;exact ⟨p0,p1,p2,p3,h0,h1',h2,h3,formK.grown h4 hg ha⟩
 ·intro g e o x hx;have e2:w'.cell? ⟨g,o,none⟩=w.cell? ⟨g,o,none⟩:=World.cell?_of_block (hne g e);rw [e2] at hx;exact ho.al g e o x hx
theorem Stp.grown {w0 w w':World} {gG n:Nat} {U:List AffQ} {v:Value} (hs:Stp gG w0 w) (h:LSt w gG n U) (hg:w.grownBy w' v.ownBlock) (hf:∀ b,v.ownBlock=some b->Fre gG w b) (hb:∀ b,v.ownBlock=some b->w0.heap.size<=b):Stp gG w0 w':=by
 obtain ⟨e,_⟩:=ub_grown h hg hf
 refine ⟨hg.os.trans hs.os,hg.tape.trans hs.tape,hg.output.trans hs.output,Nat.le_trans hs.size hg.size,fun k hk h1 h2=>?_,by rw [e];exact hs.next⟩
 exact (hg.block k (Nat.lt_of_lt_of_le hk hs.size) (fun e=>by have:=hb k e.symm;omega)).trans (hs.block k hk h1 h2)
structure GRow (gG n:Nat) (w wr:World) (v:Value) (L U:List AffQ):Prop where
 own:FOwn gG wr w.heap.size v L
 un:LSt wr gG n U
 st:Stp gG w wr
theorem GRow.start {gG n:Nat} {w:World} {U:List AffQ} (h:LSt w gG n U):GRow gG n w w (.slice none 0 0) [] U:=⟨FOwn.nil _ _ _,h,Stp.refl _ _⟩
theorem GRow.stp {gG n:Nat} {w wr w':World} {v:Value} {L U U':List AffQ} (h:GRow gG n w wr v L U) (hs:Stp gG wr w') (hU:LSt w' gG n U'):GRow gG n w w' v L U':=⟨h.own.stp h.un hs,hU,h.st.trans hs⟩
theorem GRow.below {gG n:Nat} {w wr w':World} {v:Value} {L U:List AffQ} (h:GRow gG n w wr v L U) (hb:Below wr.heap.size wr w'):GRow gG n w w' v L U:=h.stp (Stp.of hb h.un.lt) (h.un.below hb)
theorem GRow.app {gG n:Nat} {w wr w':World} {v v':Value} {L U:List AffQ} {f:AffQ} (h:GRow gG n w wr v L U) (ho:OwnF w' w.heap.size v' (L++[f])) (hg:wr.grownBy w' v.ownBlock) (hn:Next wr v v'):GRow gG n w w' v' (L++[f]) U:=by
 obtain ⟨e,_⟩:=ub_grown h.un hg h.own.fr;have hL:=h.un.grown hg h.own.fr h.own.own.al
 refine ⟨⟨ho,fun b hb=>?_⟩,hL,h.st.grown h.un hg h.own.fr (fun b hb=>(h.own.own.lt hb).1)⟩
 rcases hn with e2 | ⟨g,e2,hge⟩
 ·have hf:=h.own.fr b (e2.symm.trans hb);exact ⟨Nat.lt_of_lt_of_le hf.lt hg.size,hf.ne,by rw [e];exact hf.nu⟩
 ·rw [e2] at hb;cases hb
  refine ⟨(ho.lt e2).2,by have:=h.un.lt;omega,fun e3=>?_⟩
  rw [e] at e3;have:=h.un.ub_ge e3;omega
theorem GRow.rebase {gG n:Nat} {w W wr:World} {v:Value} {L U:List AffQ} (h:GRow gG n W wr v L U) (hs:Stp gG w W) (hb:w.heap.size<=W.heap.size):GRow gG n w wr v L U:=⟨⟨h.own.own.mono hb,h.own.fr⟩,h.un,hs.trans h.st⟩
def RowU (gG n:Nat) (w:World) (U L:List AffQ) (e:Ending) (w':World):Prop:=∃ a c,e=.returned (.slice a L.length c)/\GRow gG n w w' (.slice a L.length c) L U
theorem GRow.ret {gG n:Nat} {w wr:World} {a:Option Addr} {m c:Nat} {L U:List AffQ} (h:GRow gG n w wr (.slice a m c) L U) (hm:L.length=m):RowU gG n w U L (.returned (.slice a m c)) wr:=by
 subst hm;exact ⟨a,c,rfl,h⟩
theorem RowAf.un {gG n:Nat} {w w':World} {U L:List AffQ} {e:Ending} (h:RowAf w L e w') (hL:LSt w gG n U):RowU gG n w U L e w':=by
 obtain ⟨a,c,he,ho,hb⟩:=h;exact ⟨a,c,he,FOwn.of ho hL hb,hL.below hb,Stp.of hb hL.lt⟩
theorem grpsL_len (C n:Nat) (win:List (List Int)):(grpsL C n win).length=C * win.length:=by
 unfold grpsL
 induction C with
 | zero=>simp
 | succ C ih=>rw [List.range_succ,List.flatMap_append,List.length_append,ih,Nat.succ_mul];simp
theorem grpsL_at {C n k i:Nat} {win:List (List Int)} (hk:k < C) (hi:i < win.length):(grpsL C n win)[k * win.length+i]? =some (partL (win.getD i []) (k * n) n):=by
 induction C with
 | zero=>omega
 | succ C ih=>
  have e:grpsL (C+1) n win=grpsL C n win++(List.range win.length).map fun i=>partL (win.getD i []) (C * n) n:=by
   unfold grpsL;rw [List.range_succ,List.flatMap_append];simp
  have hl:=grpsL_len C n win;rw [e]
  by_cases h:k < C
  ·have h2:k * win.length+i < C * win.length:=by
    have:=Nat.mul_le_mul_right win.length (show k+1<=C from h);rw [Nat.succ_mul] at this;omega
   rw [List.getElem?_append_left (by rw [hl];exact h2)];exact ih h
  ·obtain rfl:k=C:=by omega
   rw [List.getElem?_append_right (by rw [hl];omega),hl,Nat.add_sub_cancel_left];simp [hi]
theorem foldU_take {β:Type} (f:List AffQ->β->List AffQ × AffQ) {l:List β} {m:Nat} {b:β} (h:l[m]? =some b) (U:List AffQ):
  foldU f (l.take (m+1)) U=((f (foldU f (l.take m) U).1 b).1,(foldU f (l.take m) U).2++[(f (foldU f (l.take m) U).1 b).2]):=by
 have hm:=(List.getElem?_eq_some_iff.1 h).1;rw [List.take_add_one,h];exact foldU_snoc f b _ _
theorem foldU_grow {β:Type} (f:List AffQ->β->List AffQ × AffQ) (c:Nat):∀ (l:List β) (U:List AffQ),(∀ U b,b ∈ l->(f U b).1.length=U.length+c)->(foldU f l U).1.length=U.length+l.length * c
 | [],U,_=>by simp [foldU]
 | b::r,U,h=>by
  show (foldU f r (f U b).1).1.length=_
  rw [foldU_grow f c r _ (fun U x hx=>h U x (List.mem_cons_of_mem _ hx)),h U b List.mem_cons_self,List.length_cons,Nat.succ_mul];omega
theorem foldU_pure {β:Type} (h:β->AffQ):∀ (l:List β) (U:List AffQ),foldU (fun U b=>(U,h b)) l U=(U,l.map h)
 | [],_=>rfl
 | b::r,U=>by
  show ((foldU (fun U b=>(U,h b)) r U).1,h b::(foldU (fun U b=>(U,h b)) r U).2)=_
  rw [foldU_pure h r U];rfl
theorem valsF_take {ix:List Int} {x:List AffQ} {j:Nat} {i:Int} (h:ix[j]? =some i):valsF (ix.take (j+1)) x=valsF (ix.take j) x++[x.getD i.toNat zerA]:=by
 rw [List.take_add_one,h];simp [valsF]
theorem lPoolM {w:World} {gL gG n0:Nat} {S:LowV} {x:List AffQ} {sh:List Int} {win gs:List (List Int)} {n T C KH KW:Nat} {U:List AffQ} {F:Nat->Prop} {G:List AffQ->List Int->List AffQ × AffQ} (hL:LoBox w gL S) (hG:LSt w gG n0 U) (h3:x.length=S.nx) (h4:sh.length=S.nS)
  (hX:FRow gG w S.ax x) (hS:Ints w F S.aS sh) (hkh:S.kh=(KH:Int)) (hkw:S.kw=(KW:Int)) (hn:n=KH * KW) (hC:sh[0]? =some (C:Int))
  (hwin:(windowsL sh S.kh S.kw S.st S.pd).1=win) (hT:T=win.length) (hgs:gs=grpsL C n win) (hlen:∀ ix ∈ win,ix.length=C * n) (hix:∀ ix ∈ win,∀ i ∈ ix,0<=i/\i < x.length)
  (hNx:S.nx<=1000000) (hn1:1<=n) (hn2:n<=1000000) (hT2:T<=1000000) (hCn:C * n<=1000000) (hCT:C * T<=1000000)
  (hF:∀ (X:World) (m:Nat) (a:Option Addr) (c:Nat) (g:List Int),gs[m]? =some g->m < C * T->g.length=n->LSt X gG n0 (foldU G (gs.take m) U).1->LoBox X gL S->FRow gG X a (valsF g x)->n<=c->
   Calls Tryz.prog 58 #[.pointer (some ⟨gL,0,none⟩),.slice a n c] X (UnAf gG n0 X (G (foldU G (gs.take m) U).1 g).1 (G (foldU G (gs.take m) U).1 g).2)):
  Calls Tryz.prog 57 #[.pointer (some ⟨gL,0,none⟩),.func (.func 58) #[.pointer (some ⟨gL,0,none⟩)] #[]] w (RowU gG n0 w (foldU G gs U).1 (foldU G gs U).2):=by
 obtain ⟨HSB,HG,HX,H3,HT,HLen⟩:=hd6 hL hG hX h3 hT hlen;obtain ⟨HIx,HCT,HCn,HGs,HFn⟩:=hd5 hix hCT hCn hgs hF;have hsl:0 < sh.length:=(List.getElem?_eq_some_iff.1 hC).1;obtain ⟨bS,oS,d0,haS,sc,hd0,_,hbS,_,_,_⟩:=hS.pick2 hsl;rw [hC] at hd0;cases hd0;have hC2:C<=1000000:=by
  have:=Nat.le_mul_of_pos_right C (show 0 < n by omega);omega
 have HWn:=lWindows hL h4 hS;rw [hwin] at HWn;have HWn:=hid HWn;have m1:IntKind.i64.wrap ((KH:Int) * (KW:Int))=(n:Int):=by rw [<- Int.natCast_mul, <- hn];exact IntWalk.i64_in _ (by omega)
 obtain ⟨Hkh,Hkw,HaS⟩:=hd3 hkh hkw haS;have hns:0 < S.nS:=by rw [<- h4];exact hsl
 clear hX h3 h4 hS hwin hT hlen hix hCT hCn hkh hkw haS hn hC hL hG hgs hF
 go_enter Tryz.func57,Tryz.ntmps57
 go_upto_region 2 with fail
 go_wp2_with fail
 refine HWn.out.mono ?_
 rintro e Wx ⟨aw,cw,rfl,hI,hb⟩;rw [<- HT.out];obtain ⟨HSx,HBx⟩:=hd2 (HSB.out.below hb) hb;have sc:=(hb.cell (p:=⟨bS,oS,none⟩) hbS).trans sc;have hbS2:=Nat.lt_of_lt_of_le hbS hb.size;have HI:=hid (hI.mono (fun b hb1 hb2=>HG.out.fresh hb hb2 hb1));clear hI hb HWn HSB
 go_upto_region 3 with fail
 have f3:=HSx.out.f3;have f4:=HSx.out.f4;have slt:=HSx.out.lt;rw [Hkh.out] at f3;rw [Hkw.out] at f4
 go_quiet (fail)
 have hdn:Below Wx.heap.size Wx (Wx.drewN nq):=below_drewN (Below.refl _ _) nq;generalize Wx.drewN nq=Wy at *;obtain ⟨HSy,HIy⟩:=hd2 (HSx.out.below hdn) (HI.out.stp (Stp.of hdn (HG.out.below HBx.out).lt));have HBy:=htr HBx hdn;have sc:=(hdn.cell (p:=⟨bS,oS,none⟩) hbS2).trans sc;have hbS3:=Nat.lt_of_lt_of_le hbS2 hdn.size;obtain ⟨HGy,HXy⟩:=hd2 (GRow.start (HG.out.below HBy.out)) (HX.out.stp HG.out (Stp.of HBy.out HG.out.lt));clear f3 f4 slt hdn HSx HI HBx hbS2;have f9:=HSy.out.f9;have slt:=HSy.out.lt;rw [HaS.out] at f9;go_wp2;clear f9 sc slt hbS3 hbS
 go_loopw [5,33] (fun v i wr=>∃ (k m:Nat) (a:Option Addr) (c:Nat),k<=C/\Hid (m=k * T)/\v=.slice a m c/\i=.int .i64 (k:Int)/\Hid (GRow gG n0 Wy wr (.slice a m c) (foldU G (gs.take m) U).2 (foldU G (gs.take m) U).1)) (fun _ i _=>C - (intOf i).toNat)
 case atStart=>exact ⟨0,0,none,0,Nat.zero_le _,by unfold Hid;omega,rfl,rfl,by unfold Hid;simpa [foldU] using HGy.out⟩
 case round=>
  obtain ⟨k,m,b0,k0,hk,HM,rfl,rfl,HOut⟩:=hrel
  by_cases hlt:k < C
  ·go_wp2
   go_loopw [5,38] (fun v j wr=>∃ (i m:Nat) (a:Option Addr) (c:Nat),i<=T/\Hid (m=k * T+i)/\v=.slice a m c/\j=.int .i64 (i:Int)/\Hid (GRow gG n0 Wy wr (.slice a m c) (foldU G (gs.take m) U).2 (foldU G (gs.take m) U).1)) (fun _ j _=>T - (intOf j).toNat)
   case atStart=>exact ⟨0,m,b0,k0,Nat.zero_le _,HM.out,rfl,rfl,HOut.out⟩
   case round=>
    clear HM HOut;obtain ⟨i,m,b0,k0,hi0,HM,rfl,rfl,HOut⟩:=hrel
    by_cases hi:i < T
    ·obtain ⟨p0,hp0⟩:∃ p0,p0=k * n:=⟨_,rfl⟩
     obtain ⟨p1,hp1⟩:∃ p1,p1=(k+1) * n:=⟨_,rfl⟩
     have hmul:p1<=C * n:=by rw [hp1];exact Nat.mul_le_mul_right _ hlt
     have hp01:p1=p0+n:=by rw [hp1,hp0,Nat.succ_mul]
     have hcn:=HCn.out;have h10:p1 - p0=n:=by omega
     have hmCT:m+1<=C * T:=by
      have h1:(k+1) * T<=C * T:=Nat.mul_le_mul_right _ hlt;have h3:=HM.out;rw [Nat.succ_mul] at h1;omega
     have hmT:m+1<=1000000:=by have h2:=HCT.out;omega
     have HIr:=HIy.out.stp HOut.out.st;obtain ⟨bt,ot,l,ai,ci,haw',tc0,hl,hlc,hIl,hbt,_⟩:=HIr.pickc (k:=i) (by have:=HT.out;omega);have hmem:=List.mem_of_getElem? hl;obtain ⟨ln,hln⟩:∃ ln,ln=l.length:=⟨_,rfl⟩
     have hln2:p1<=ln:=by rw [hln,HLen.out l hmem];exact hmul
     have hln3:ln<=1000000:=by rw [hln,HLen.out l hmem];exact hcn
     have hp0l:p0 < ln:=by omega
     have hp01l:p0<=p1:=by omega
     rw [<- hln] at tc0 hlc;obtain ⟨bi,oi,_,hai,_,_,_,_,_,_,_⟩:=hIl.pick2 (k:=0) (by omega);rw [hai] at hIl;obtain ⟨hsl2,hsub⟩:=hIl.sub (lo:=p0) (n:=n) (by omega);obtain ⟨ll,hll⟩:∃ ll,ll=List.take n (List.drop p0 l):=⟨_,rfl⟩
     rw [<- hll] at hsl2 hsub;have hgm:gs[m]? =some ll:=by
      have h:=grpsL_at (C:=C) (n:=n) (k:=k) (i:=i) (win:=win) hlt (by have:=HT.out;omega);rw [<- HT.out, <- HM.out, <- HGs.out,List.getD_eq_getElem?_getD,hl, <- hp0] at h;rw [h,hll];rfl
     have hmx:∀ j ∈ ll,0<=j/\j < x.length:=fun j hj=>HIx.out l hmem j (partL_mem (lo:=p0) (n:=n) (by rw [hll] at hj;exact hj))
     obtain ⟨HMx,HSub,HSl⟩:=hd3 hmx hsub hsl2;have HXr:=hid (HXy.out.stp HGy.out.un HOut.out.st).at';obtain ⟨HSr,HStep,HGm⟩:=hd3 (HSy.out.stp HGy.out.un HOut.out.st) (foldU_take G hgm U) hgm;have HM1:Hid (m+1=k * T+(i+1)):=by have:=HM.out;unfold Hid;omega
     have m0:IntKind.i64.wrap ((k:Int) * (n:Int))=(p0:Int):=by
      rw [<- Int.natCast_mul, <- hp0];exact IntWalk.i64_in _ (by omega)
     have HM2:Hid (IntKind.i64.wrap (((k:Int)+1) * (n:Int))=(p1:Int)):=by
      have e:((k:Int)+1) * (n:Int)=(p1:Int):=by rw [hp1];simp
      unfold Hid;rw [e];exact IntWalk.i64_in _ (by omega)
     have HCTm:=hid hmCT;have hbt2:bt < wr.heap.size:=hbt;subst haw' hai;clear hl hmem hln hIl hsl2 hsub hmx hgm hp0 hp1 hll HIr hmCT;have m2:IntKind.i64.wrap (((k:Int)+1) * (n:Int))=(p1:Int):=HM2.out;obtain ⟨wq,hwq⟩:∃ wq:World,wq=wr:=⟨_,rfl⟩
     subst hwq;go_wp2;clear m2 m0 tc0;simp only [Nat.add_sub_cancel_left]
     go_loopw [11,52] (fun v q wi=>∃ (j:Nat) (a:Option Addr) (c:Nat),j<=n/\v=.slice a j c/\q=.int .i64 (j:Int)/\Hid (OutF wq wi (.slice a j c) (valsF (ll.take j) x))) (fun _ q _=>n - (intOf q).toNat)
     case atStart=>exact ⟨0,none,0,Nat.zero_le _,rfl,rfl,by unfold Hid;simpa [valsF] using OutF.start wq⟩
     case round=>
      obtain ⟨j,b2,k2,hj0,rfl,rfl,HJn⟩:=hrel
      by_cases hj:j < n
      ·have hbj:Below wq.heap.size wq wr:=HJn.out.bl;obtain ⟨b6,o6,xi,ha6,xc,hxi,_,hb6,_,_,_⟩:=(HSub.out.below hbj).pick2 (k:=j) (by rw [HSl.out];exact hj);cases ha6;obtain ⟨hx0,hx1⟩:=HMx.out xi (List.mem_of_getElem? hxi);obtain ⟨iN,rfl⟩:=Int.eq_ofNat_of_zero_le hx0;have hiN:iN < x.length:=by omega
       obtain ⟨bx,ox,y,q0,q1,q2,q3,hax,hbx,hyy,yc0,yc1,yc2,yc3,hyv⟩:=HXr.out.pick (k:=iN) hiN;obtain ⟨ya,yn,yc,yb,yan,ynn,ycn,yad,ynd,ycd,rfl,rfl,rfl,rfl⟩:=hyv.spell;have hxk:x.getD iN zerA=y:=by rw [List.getD_eq_getElem?_getD,hyy];rfl
       have HVal:=hid (valsF_take (x:=x) hxi);rw [show ((iN:Int)).toNat=iN from Int.toNat_natCast iN,hxk] at HVal;have yc0:=(hbj.cell (p:=⟨bx,ox+iN * 4,none⟩) hbx).trans yc0;have yc1:=(hbj.cell (p:=⟨bx,ox+iN * 4+1,none⟩) hbx).trans yc1;have yc2:=(hbj.cell (p:=⟨bx,ox+iN * 4+2,none⟩) hbx).trans yc2;have yc3:=(hbj.cell (p:=⟨bx,ox+iN * 4+3,none⟩) hbx).trans yc3;have hbx2:=Nat.lt_of_lt_of_le hbx hbj.size;have f10:=(HSr.out.below hbj).f10;have slt:=(HSr.out.below hbj).lt;rw [hax] at f10;have hiS:iN < S.nx:=by rw [<- H3.out];exact hiN
       have hal:=blA wr (.cells #[.slice ya yn yc,.bool yb,.slice yan ynn ycn,.slice yad ynd ycd] 53);obtain ⟨HRow,HOw⟩:=hd2 (One4.form (formK.below hyv hbj) 53) (HJn.out.below hal);have HLj:Hid ((valsF (ll.take j) x).length=j):=by
        have:=HSl.out;unfold Hid;rw [valsF_len,List.length_take];omega
       clear hyy hyv hxk hal hbj hxi hx0 hx1
       go_wp2_with (at_builtin;refine wpList_app4 (T:=53) formK (.slice none 0 0) (.bool false) (.slice none 0 0) (.slice none 0 0) 80 (by intro u hu;simp at hu;rcases hu with rfl | rfl | rfl | rfl <;> rfl) rfl (.tmp 56) (.tmp 64) 28 rfl wq.heap.size Tryz.underlying28 (by kernel_rfl) (by omega) (.slice b2 j k2) j _ HLj.out rfl HOw.out.own _ y HRow.out rfl (by omega) HOw.out.bl.size ?_;intro b3 k3 w3 hown hk3 hg hbe hnx;have HOut3:=hid (show OutF wq w3 (.slice b3 (j+1) k3) (valsF (ll.take (j+1)) x) from ⟨by rw [HVal.out];exact hown,HOw.out.bl.trans hbe⟩);clear hown hg hbe hnx)
       go_roundw
       case rel=>
        exact ⟨j+1,b3,k3,hj,rfl,by go_num,HOut3.out⟩
       case measure=>simp [intOf];omega
      ·obtain rfl:j=n:=by omega
       have HJ:=HJn.out;rw [show ll.take j=ll from List.take_of_length_le (by rw [HSl.out];exact Nat.le_refl _)] at HJ;have hvl:(valsF ll x).length=j:=by rw [valsF_len];exact HSl.out
       have hjk:j<=k2:=by
        obtain ⟨a',c',e,hc⟩:=HJ.own.form;cases e;rw [hvl] at hc;exact hc
       have hF1:=FOwn.of HJ.own HOut.out.un HJ.bl;have HFR:=(hF1.read (by rw [hvl];omega))
       have HG1:=hid (HOut.out.below HJ.bl);have HC:=hid (HFn.out wr m b2 k2 ll HGm.out (by have:=HCTm.out;omega) HSl.out HG1.out.un (HSr.out.below HJ.bl) HFR hjk);obtain ⟨U',f',hUf⟩:∃ U' f',G (foldU G (gs.take m) U).1 ll=(U',f'):=⟨_,_,rfl⟩
       rw [hUf] at HC HStep;have HLm:Hid ((foldU G (gs.take m) U).2.length=m):=by
        have h1:=(List.getElem?_eq_some_iff.1 HGm.out).1;unfold Hid;rw [foldU_len,List.length_take];omega
       clear HJ hF1 HFR hUf hvl HJn
       go_wp2_with fail
       refine HC.out.mono ?_
       rintro e w5 ⟨v5,rfl,hv5,hl5,hs5⟩;obtain ⟨ya,yn,yc,yb,yan,ynn,ycn,yad,ynd,ycd,rfl⟩:=hv5.spell;have hal:=blA w5 (.cells #[.slice ya yn yc,.bool yb,.slice yan ynn ycn,.slice yad ynd ycd] 53);obtain ⟨HRow,HG5⟩:=hd2 (One4.form hv5.fp 53) ((HG1.out.stp hs5 hl5).below hal);have HGe:=hid HG5.out.st.size;clear hv5 hl5 hs5 hal HC HG1
       go_wp2_with (at_builtin;refine wpList_app4 (T:=53) formK (.slice none 0 0) (.bool false) (.slice none 0 0) (.slice none 0 0) 80 (by intro u hu;simp at hu;rcases hu with rfl | rfl | rfl | rfl <;> rfl) rfl (.tmp 67) (.tmp 71) 28 rfl Wy.heap.size Tryz.underlying28 (by kernel_rfl) (by omega) (.slice b0 m k0) m _ HLm.out rfl HG5.out.own.own _ f' HRow.out rfl (by omega) HGe.out ?_;intro b3 k3 w3 hown hk3 hg hbe hnx;have HOut3:=hid (show GRow gG n0 Wy w3 (.slice b3 (m+1) k3) (foldU G (gs.take (m+1)) U).2 (foldU G (gs.take (m+1)) U).1 from by rw [HStep.out];exact HG5.out.app hown hg hnx);clear hown hg hbe hnx)
       go_roundw
       case rel=>exact ⟨i+1,m+1,b3,k3,hi,HM1.out,rfl,by go_num,HOut3.out⟩
       case measure=>simp [intOf];omega
    ·obtain rfl:i=T:=by omega
     have HM1:Hid (m=(k+1) * i):=by have:=HM.out;unfold Hid;rw [Nat.succ_mul];omega
     go_wp2;go_roundw
     case rel=>exact ⟨k+1,m,b0,k0,hlt,HM1.out,rfl,by go_num,HOut.out⟩
     case measure=>simp [intOf];omega
  ·obtain rfl:k=C:=by omega
   have e:gs.take m=gs:=List.take_of_length_le (by rw [HGs.out,grpsL_len,HM.out,HT.out];exact Nat.le_refl _);have HO:=HOut.out;rw [e] at HO;have HO:=hid HO;have hfl:(foldU G gs U).2.length=m:=by rw [foldU_len,HGs.out,grpsL_len,HM.out,HT.out]
   go_wp2;exact bodyPost_ret (v:=.slice b0 m k0) (by simp [results,Tryz.results57,go_sem]) rfl ((HO.out.rebase (Stp.of HBy.out HG.out.lt) HBy.out.size).ret hfl)
theorem lPoolA {w:World} {gL gG n0:Nat} {S:LowV} {x:List AffQ} {sh:List Int} {win gs:List (List Int)} {n T C KH KW:Nat} {U:List AffQ} {F:Nat->Prop} {G:List AffQ->List Int->List AffQ × AffQ} (hL:LoBox w gL S) (hG:LSt w gG n0 U) (h3:x.length=S.nx) (h4:sh.length=S.nS)
  (hX:FRow gG w S.ax x) (hS:Ints w F S.aS sh) (hkh:S.kh=(KH:Int)) (hkw:S.kw=(KW:Int)) (hn:n=KH * KW) (hC:sh[0]? =some (C:Int))
  (hwin:(windowsL sh S.kh S.kw S.st S.pd).1=win) (hT:T=win.length) (hgs:gs=grpsL C n win) (hlen:∀ ix ∈ win,ix.length=C * n) (hix:∀ ix ∈ win,∀ i ∈ ix,0<=i/\i < x.length)
  (hNx:S.nx<=1000000) (hn1:1<=n) (hn2:n<=1000000) (hT2:T<=1000000) (hCn:C * n<=1000000) (hCT:C * T<=1000000)
  (hF:∀ (X:World) (m:Nat) (a:Option Addr) (c:Nat) (g:List Int),gs[m]? =some g->m < C * T->g.length=n->LSt X gG n0 (foldU G (gs.take m) U).1->LoBox X gL S->FRow gG X a (valsF g x)->n<=c->
   Calls Tryz.prog 59 #[.slice a n c] X (UnAf gG n0 X (G (foldU G (gs.take m) U).1 g).1 (G (foldU G (gs.take m) U).1 g).2)):
  Calls Tryz.prog 57 #[.pointer (some ⟨gL,0,none⟩),.func (.func 59) #[] #[]] w (RowU gG n0 w (foldU G gs U).1 (foldU G gs U).2):=by
 obtain ⟨HSB,HG,HX,H3,HT,HLen⟩:=hd6 hL hG hX h3 hT hlen;obtain ⟨HIx,HCT,HCn,HGs,HFn⟩:=hd5 hix hCT hCn hgs hF;have hsl:0 < sh.length:=(List.getElem?_eq_some_iff.1 hC).1;obtain ⟨bS,oS,d0,haS,sc,hd0,_,hbS,_,_,_⟩:=hS.pick2 hsl;rw [hC] at hd0;cases hd0;have hC2:C<=1000000:=by
  have:=Nat.le_mul_of_pos_right C (show 0 < n by omega);omega
 have HWn:=lWindows hL h4 hS;rw [hwin] at HWn;have HWn:=hid HWn;have m1:IntKind.i64.wrap ((KH:Int) * (KW:Int))=(n:Int):=by rw [<- Int.natCast_mul, <- hn];exact IntWalk.i64_in _ (by omega)
 obtain ⟨Hkh,Hkw,HaS⟩:=hd3 hkh hkw haS;have hns:0 < S.nS:=by rw [<- h4];exact hsl
 clear hX h3 h4 hS hwin hT hlen hix hCT hCn hkh hkw haS hn hC hL hG hgs hF
 go_enter Tryz.func57,Tryz.ntmps57
 go_upto_region 2 with fail
 go_wp2_with fail
 refine HWn.out.mono ?_
 rintro e Wx ⟨aw,cw,rfl,hI,hb⟩;rw [<- HT.out];obtain ⟨HSx,HBx⟩:=hd2 (HSB.out.below hb) hb;have sc:=(hb.cell (p:=⟨bS,oS,none⟩) hbS).trans sc;have hbS2:=Nat.lt_of_lt_of_le hbS hb.size;have HI:=hid (hI.mono (fun b hb1 hb2=>HG.out.fresh hb hb2 hb1));clear hI hb HWn HSB
 go_upto_region 3 with fail
 have f3:=HSx.out.f3;have f4:=HSx.out.f4;have slt:=HSx.out.lt;rw [Hkh.out] at f3;rw [Hkw.out] at f4
 go_quiet (fail)
 have hdn:Below Wx.heap.size Wx (Wx.drewN nq):=below_drewN (Below.refl _ _) nq;generalize Wx.drewN nq=Wy at *;obtain ⟨HSy,HIy⟩:=hd2 (HSx.out.below hdn) (HI.out.stp (Stp.of hdn (HG.out.below HBx.out).lt));have HBy:=htr HBx hdn;have sc:=(hdn.cell (p:=⟨bS,oS,none⟩) hbS2).trans sc;have hbS3:=Nat.lt_of_lt_of_le hbS2 hdn.size;obtain ⟨HGy,HXy⟩:=hd2 (GRow.start (HG.out.below HBy.out)) (HX.out.stp HG.out (Stp.of HBy.out HG.out.lt));clear f3 f4 slt hdn HSx HI HBx hbS2;have f9:=HSy.out.f9;have slt:=HSy.out.lt;rw [HaS.out] at f9;go_wp2;clear f9 sc slt hbS3 hbS
 go_loopw [5,33] (fun v i wr=>∃ (k m:Nat) (a:Option Addr) (c:Nat),k<=C/\Hid (m=k * T)/\v=.slice a m c/\i=.int .i64 (k:Int)/\Hid (GRow gG n0 Wy wr (.slice a m c) (foldU G (gs.take m) U).2 (foldU G (gs.take m) U).1)) (fun _ i _=>C - (intOf i).toNat)
 case atStart=>exact ⟨0,0,none,0,Nat.zero_le _,by unfold Hid;omega,rfl,rfl,by unfold Hid;simpa [foldU] using HGy.out⟩
 case round=>
  obtain ⟨k,m,b0,k0,hk,HM,rfl,rfl,HOut⟩:=hrel
  by_cases hlt:k < C
  ·go_wp2
   go_loopw [5,38] (fun v j wr=>∃ (i m:Nat) (a:Option Addr) (c:Nat),i<=T/\Hid (m=k * T+i)/\v=.slice a m c/\j=.int .i64 (i:Int)/\Hid (GRow gG n0 Wy wr (.slice a m c) (foldU G (gs.take m) U).2 (foldU G (gs.take m) U).1)) (fun _ j _=>T - (intOf j).toNat)
   case atStart=>exact ⟨0,m,b0,k0,Nat.zero_le _,HM.out,rfl,rfl,HOut.out⟩
   case round=>
    clear HM HOut;obtain ⟨i,m,b0,k0,hi0,HM,rfl,rfl,HOut⟩:=hrel
    by_cases hi:i < T
    ·obtain ⟨p0,hp0⟩:∃ p0,p0=k * n:=⟨_,rfl⟩
     obtain ⟨p1,hp1⟩:∃ p1,p1=(k+1) * n:=⟨_,rfl⟩
     have hmul:p1<=C * n:=by rw [hp1];exact Nat.mul_le_mul_right _ hlt
     have hp01:p1=p0+n:=by rw [hp1,hp0,Nat.succ_mul]
     have hcn:=HCn.out;have h10:p1 - p0=n:=by omega
     have hmCT:m+1<=C * T:=by
      have h1:(k+1) * T<=C * T:=Nat.mul_le_mul_right _ hlt;have h3:=HM.out;rw [Nat.succ_mul] at h1;omega
     have hmT:m+1<=1000000:=by have h2:=HCT.out;omega
     have HIr:=HIy.out.stp HOut.out.st;obtain ⟨bt,ot,l,ai,ci,haw',tc0,hl,hlc,hIl,hbt,_⟩:=HIr.pickc (k:=i) (by have:=HT.out;omega);have hmem:=List.mem_of_getElem? hl;obtain ⟨ln,hln⟩:∃ ln,ln=l.length:=⟨_,rfl⟩
     have hln2:p1<=ln:=by rw [hln,HLen.out l hmem];exact hmul
     have hln3:ln<=1000000:=by rw [hln,HLen.out l hmem];exact hcn
     have hp0l:p0 < ln:=by omega
     have hp01l:p0<=p1:=by omega
     rw [<- hln] at tc0 hlc;obtain ⟨bi,oi,_,hai,_,_,_,_,_,_,_⟩:=hIl.pick2 (k:=0) (by omega);rw [hai] at hIl;obtain ⟨hsl2,hsub⟩:=hIl.sub (lo:=p0) (n:=n) (by omega);obtain ⟨ll,hll⟩:∃ ll,ll=List.take n (List.drop p0 l):=⟨_,rfl⟩
     rw [<- hll] at hsl2 hsub;have hgm:gs[m]? =some ll:=by
      have h:=grpsL_at (C:=C) (n:=n) (k:=k) (i:=i) (win:=win) hlt (by have:=HT.out;omega);rw [<- HT.out, <- HM.out, <- HGs.out,List.getD_eq_getElem?_getD,hl, <- hp0] at h;rw [h,hll];rfl
     have hmx:∀ j ∈ ll,0<=j/\j < x.length:=fun j hj=>HIx.out l hmem j (partL_mem (lo:=p0) (n:=n) (by rw [hll] at hj;exact hj))
     obtain ⟨HMx,HSub,HSl⟩:=hd3 hmx hsub hsl2;have HXr:=hid (HXy.out.stp HGy.out.un HOut.out.st).at';obtain ⟨HSr,HStep,HGm⟩:=hd3 (HSy.out.stp HGy.out.un HOut.out.st) (foldU_take G hgm U) hgm;have HM1:Hid (m+1=k * T+(i+1)):=by have:=HM.out;unfold Hid;omega
     have m0:IntKind.i64.wrap ((k:Int) * (n:Int))=(p0:Int):=by
      rw [<- Int.natCast_mul, <- hp0];exact IntWalk.i64_in _ (by omega)
     have HM2:Hid (IntKind.i64.wrap (((k:Int)+1) * (n:Int))=(p1:Int)):=by
      have e:((k:Int)+1) * (n:Int)=(p1:Int):=by rw [hp1];simp
      unfold Hid;rw [e];exact IntWalk.i64_in _ (by omega)
     have HCTm:=hid hmCT;have hbt2:bt < wr.heap.size:=hbt;subst haw' hai;clear hl hmem hln hIl hsl2 hsub hmx hgm hp0 hp1 hll HIr hmCT;have m2:IntKind.i64.wrap (((k:Int)+1) * (n:Int))=(p1:Int):=HM2.out;obtain ⟨wq,hwq⟩:∃ wq:World,wq=wr:=⟨_,rfl⟩
     subst hwq;go_wp2;clear m2 m0 tc0;simp only [Nat.add_sub_cancel_left]
     go_loopw [11,52] (fun v q wi=>∃ (j:Nat) (a:Option Addr) (c:Nat),j<=n/\v=.slice a j c/\q=.int .i64 (j:Int)/\Hid (OutF wq wi (.slice a j c) (valsF (ll.take j) x))) (fun _ q _=>n - (intOf q).toNat)
     case atStart=>exact ⟨0,none,0,Nat.zero_le _,rfl,rfl,by unfold Hid;simpa [valsF] using OutF.start wq⟩
     case round=>
      obtain ⟨j,b2,k2,hj0,rfl,rfl,HJn⟩:=hrel
      by_cases hj:j < n
      ·have hbj:Below wq.heap.size wq wr:=HJn.out.bl;obtain ⟨b6,o6,xi,ha6,xc,hxi,_,hb6,_,_,_⟩:=(HSub.out.below hbj).pick2 (k:=j) (by rw [HSl.out];exact hj);cases ha6;obtain ⟨hx0,hx1⟩:=HMx.out xi (List.mem_of_getElem? hxi);obtain ⟨iN,rfl⟩:=Int.eq_ofNat_of_zero_le hx0;have hiN:iN < x.length:=by omega
       obtain ⟨bx,ox,y,q0,q1,q2,q3,hax,hbx,hyy,yc0,yc1,yc2,yc3,hyv⟩:=HXr.out.pick (k:=iN) hiN;obtain ⟨ya,yn,yc,yb,yan,ynn,ycn,yad,ynd,ycd,rfl,rfl,rfl,rfl⟩:=hyv.spell;have hxk:x.getD iN zerA=y:=by rw [List.getD_eq_getElem?_getD,hyy];rfl
       have HVal:=hid (valsF_take (x:=x) hxi);rw [show ((iN:Int)).toNat=iN from Int.toNat_natCast iN,hxk] at HVal;have yc0:=(hbj.cell (p:=⟨bx,ox+iN * 4,none⟩) hbx).trans yc0;have yc1:=(hbj.cell (p:=⟨bx,ox+iN * 4+1,none⟩) hbx).trans yc1;have yc2:=(hbj.cell (p:=⟨bx,ox+iN * 4+2,none⟩) hbx).trans yc2;have yc3:=(hbj.cell (p:=⟨bx,ox+iN * 4+3,none⟩) hbx).trans yc3;have hbx2:=Nat.lt_of_lt_of_le hbx hbj.size;have f10:=(HSr.out.below hbj).f10;have slt:=(HSr.out.below hbj).lt;rw [hax] at f10;have hiS:iN < S.nx:=by rw [<- H3.out];exact hiN
       have hal:=blA wr (.cells #[.slice ya yn yc,.bool yb,.slice yan ynn ycn,.slice yad ynd ycd] 53);obtain ⟨HRow,HOw⟩:=hd2 (One4.form (formK.below hyv hbj) 53) (HJn.out.below hal);have HLj:Hid ((valsF (ll.take j) x).length=j):=by
        have:=HSl.out;unfold Hid;rw [valsF_len,List.length_take];omega
       clear hyy hyv hxk hal hbj hxi hx0 hx1
       go_wp2_with (at_builtin;refine wpList_app4 (T:=53) formK (.slice none 0 0) (.bool false) (.slice none 0 0) (.slice none 0 0) 80 (by intro u hu;simp at hu;rcases hu with rfl | rfl | rfl | rfl <;> rfl) rfl (.tmp 56) (.tmp 64) 28 rfl wq.heap.size Tryz.underlying28 (by kernel_rfl) (by omega) (.slice b2 j k2) j _ HLj.out rfl HOw.out.own _ y HRow.out rfl (by omega) HOw.out.bl.size ?_;intro b3 k3 w3 hown hk3 hg hbe hnx;have HOut3:=hid (show OutF wq w3 (.slice b3 (j+1) k3) (valsF (ll.take (j+1)) x) from ⟨by rw [HVal.out];exact hown,HOw.out.bl.trans hbe⟩);clear hown hg hbe hnx)
       go_roundw
       case rel=>
        exact ⟨j+1,b3,k3,hj,rfl,by go_num,HOut3.out⟩
       case measure=>simp [intOf];omega
      ·obtain rfl:j=n:=by omega
       have HJ:=HJn.out;rw [show ll.take j=ll from List.take_of_length_le (by rw [HSl.out];exact Nat.le_refl _)] at HJ;have hvl:(valsF ll x).length=j:=by rw [valsF_len];exact HSl.out
       have hjk:j<=k2:=by
        obtain ⟨a',c',e,hc⟩:=HJ.own.form;cases e;rw [hvl] at hc;exact hc
       have hF1:=FOwn.of HJ.own HOut.out.un HJ.bl;have HFR:=(hF1.read (by rw [hvl];omega))
       have HG1:=hid (HOut.out.below HJ.bl);have HC:=hid (HFn.out wr m b2 k2 ll HGm.out (by have:=HCTm.out;omega) HSl.out HG1.out.un (HSr.out.below HJ.bl) HFR hjk);obtain ⟨U',f',hUf⟩:∃ U' f',G (foldU G (gs.take m) U).1 ll=(U',f'):=⟨_,_,rfl⟩
       rw [hUf] at HC HStep;have HLm:Hid ((foldU G (gs.take m) U).2.length=m):=by
        have h1:=(List.getElem?_eq_some_iff.1 HGm.out).1;unfold Hid;rw [foldU_len,List.length_take];omega
       clear HJ hF1 HFR hUf hvl HJn
       go_wp2_with fail
       refine HC.out.mono ?_
       rintro e w5 ⟨v5,rfl,hv5,hl5,hs5⟩;obtain ⟨ya,yn,yc,yb,yan,ynn,ycn,yad,ynd,ycd,rfl⟩:=hv5.spell;have hal:=blA w5 (.cells #[.slice ya yn yc,.bool yb,.slice yan ynn ycn,.slice yad ynd ycd] 53);obtain ⟨HRow,HG5⟩:=hd2 (One4.form hv5.fp 53) ((HG1.out.stp hs5 hl5).below hal);have HGe:=hid HG5.out.st.size;clear hv5 hl5 hs5 hal HC HG1
       go_wp2_with (at_builtin;refine wpList_app4 (T:=53) formK (.slice none 0 0) (.bool false) (.slice none 0 0) (.slice none 0 0) 80 (by intro u hu;simp at hu;rcases hu with rfl | rfl | rfl | rfl <;> rfl) rfl (.tmp 67) (.tmp 71) 28 rfl Wy.heap.size Tryz.underlying28 (by kernel_rfl) (by omega) (.slice b0 m k0) m _ HLm.out rfl HG5.out.own.own _ f' HRow.out rfl (by omega) HGe.out ?_;intro b3 k3 w3 hown hk3 hg hbe hnx;have HOut3:=hid (show GRow gG n0 Wy w3 (.slice b3 (m+1) k3) (foldU G (gs.take (m+1)) U).2 (foldU G (gs.take (m+1)) U).1 from by rw [HStep.out];exact HG5.out.app hown hg hnx);clear hown hg hbe hnx)
       go_roundw
       case rel=>exact ⟨i+1,m+1,b3,k3,hi,HM1.out,rfl,by go_num,HOut3.out⟩
       case measure=>simp [intOf];omega
    ·obtain rfl:i=T:=by omega
     have HM1:Hid (m=(k+1) * i):=by have:=HM.out;unfold Hid;rw [Nat.succ_mul];omega
     go_wp2;go_roundw
     case rel=>exact ⟨k+1,m,b0,k0,hlt,HM1.out,rfl,by go_num,HOut.out⟩
     case measure=>simp [intOf];omega
  ·obtain rfl:k=C:=by omega
   have e:gs.take m=gs:=List.take_of_length_le (by rw [HGs.out,grpsL_len,HM.out,HT.out];exact Nat.le_refl _);have HO:=HOut.out;rw [e] at HO;have HO:=hid HO;have hfl:(foldU G gs U).2.length=m:=by rw [foldU_len,HGs.out,grpsL_len,HM.out,HT.out]
   go_wp2;exact bodyPost_ret (v:=.slice b0 m k0) (by simp [results,Tryz.results57,go_sem]) rfl ((HO.out.rebase (Stp.of HBy.out HG.out.lt) HBy.out.size).ret hfl)
theorem lOut1 {w:World} {gL:Nat} {S:LowV} {R:Ending->World->Prop} (hL:LoBox w gL S) (hk:S.kd=1) (h:Calls Tryz.prog 55 #[.pointer (some ⟨gL,0,none⟩)] w R) (hr:∀ e w',R e w'->∃ a n c,e=.returned (.slice a n c)):
  Calls Tryz.prog 35 #[.pointer (some ⟨gL,0,none⟩)] w R:=by
 have HC:=hid h;have f0:=hL.f0;have glt:=hL.lt;rw [hk] at f0;clear hL hk h
 go_enter Tryz.func35,Tryz.ntmps35
 go_wp2_with fail
 refine HC.out.mono ?_
 intro e w1 hR;obtain ⟨a,n,c,rfl⟩:=hr e w1 hR;have HR:=hid hR;clear hR HC;go_wp2;exact HR.out
theorem lOut2 {w:World} {gL:Nat} {S:LowV} {R:Ending->World->Prop} (hL:LoBox w gL S) (hk:S.kd=2) (h:Calls Tryz.prog 56 #[.pointer (some ⟨gL,0,none⟩)] w R) (hr:∀ e w',R e w'->∃ a n c,e=.returned (.slice a n c)):
  Calls Tryz.prog 35 #[.pointer (some ⟨gL,0,none⟩)] w R:=by
 have HC:=hid h;have f0:=hL.f0;have glt:=hL.lt;rw [hk] at f0;clear hL hk h
 go_enter Tryz.func35,Tryz.ntmps35
 go_wp2_with fail
 refine HC.out.mono ?_
 intro e w1 hR;obtain ⟨a,n,c,rfl⟩:=hr e w1 hR;have HR:=hid hR;clear hR HC;go_wp2;exact HR.out
theorem lOut3 {w:World} {gL:Nat} {S:LowV} {R:Ending->World->Prop} (hL:LoBox w gL S) (hk:S.kd=3) (h:Calls Tryz.prog 57 #[.pointer (some ⟨gL,0,none⟩),.func (.func 58) #[.pointer (some ⟨gL,0,none⟩)] #[]] w R) (hr:∀ e w',R e w'->∃ a n c,e=.returned (.slice a n c)):
  Calls Tryz.prog 35 #[.pointer (some ⟨gL,0,none⟩)] w R:=by
 have HC:=hid h;have f0:=hL.f0;have glt:=hL.lt;rw [hk] at f0;clear hL hk h
 go_enter Tryz.func35,Tryz.ntmps35
 go_wp2_with fail
 refine HC.out.mono ?_
 intro e w1 hR;obtain ⟨a,n,c,rfl⟩:=hr e w1 hR;have HR:=hid hR;clear hR HC;go_wp2;exact HR.out
theorem lOut4 {w:World} {gL:Nat} {S:LowV} {R:Ending->World->Prop} (hL:LoBox w gL S) (hk:S.kd=4) (h:Calls Tryz.prog 57 #[.pointer (some ⟨gL,0,none⟩),.func (.func 59) #[] #[]] w R) (hr:∀ e w',R e w'->∃ a n c,e=.returned (.slice a n c)):
  Calls Tryz.prog 35 #[.pointer (some ⟨gL,0,none⟩)] w R:=by
 have HC:=hid h;have f0:=hL.f0;have glt:=hL.lt;rw [hk] at f0;clear hL hk h
 go_enter Tryz.func35,Tryz.ntmps35
 go_wp2_with fail
 refine HC.out.mono ?_
 intro e w1 hR;obtain ⟨a,n,c,rfl⟩:=hr e w1 hR;have HR:=hid hR;clear hR HC;go_wp2;exact HR.out
theorem lOut6 {w:World} {gL:Nat} {S:LowV} (hL:LoBox w gL S) (hk:S.kd=6):
  Calls Tryz.prog 35 #[.pointer (some ⟨gL,0,none⟩)] w fun e w'=>e=.returned (.slice S.ax S.nx S.cx)/\Below w.heap.size w w':=by
 have f0:=hL.f0;have f10:=hL.f10;have glt:=hL.lt;rw [hk] at f0;clear hL hk
 go_enter Tryz.func35,Tryz.ntmps35
 go_wp2;exact bodyPost_ret (v:=.slice S.ax S.nx S.cx) (by simp [results,Tryz.results35,go_sem]) rfl ⟨rfl,Below.refl _ _⟩
end Go.Proofs.YtfgmmghmmfmdgaaGreat
