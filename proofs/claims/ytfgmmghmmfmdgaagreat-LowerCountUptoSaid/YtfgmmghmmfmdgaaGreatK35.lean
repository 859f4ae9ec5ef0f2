/-
  Contracts of the functions that the statement reaches: LinQ, LinS.
-/
import Derived.Test.YtfgmmghmmfmdgaaGreatK34
set_option linter.all false
set_option maxRecDepth 100000
set_option maxHeartbeats 3200000
namespace Go.Proofs.YtfgmmghmmfmdgaaGreat
open Go.RowKit
open Go.Lib (hid)
def denseFO (bs ws:List Rat) (x:List AffQ) (r:Nat):AffQ:=sumF (bs.getD r 0) ws (r * x.length) (iotaZ x.length) x x.length
def denseF (k:Nat) (bs ws:List Rat) (x:List AffQ):List AffQ:=(List.range k).map (denseFO bs ws x)
theorem denseF_succ (k:Nat) (bs ws:List Rat) (x:List AffQ):denseF (k+1) bs ws x=denseF k bs ws x++[denseFO bs ws x k]:=by simp [denseF,List.range_succ]
theorem denseF_len (k:Nat) (bs ws:List Rat) (x:List AffQ):(denseF k bs ws x).length=k:=by simp [denseF]
theorem sumF_step {b:Rat} {ws:List Rat} {off k:Nat} {x:List AffQ} (h:k < x.length):sumF b ws off (iotaZ x.length) x (k+1)=addA 1 (sumF b ws off (iotaZ x.length) x k) (scA (ws.getD (off+k) 0) (x.getD k zerA)):=by
 have e:=iotaZ_at h;show (if 0<=(iotaZ x.length).getD k 0 then _ else _)=_
 rw [e,if_pos (by omega)];rfl
theorem lDense {w:World} {gL:Nat} {S:LowV} {bs ws:List Rat} {x:List AffQ} {W C D B N:Nat} (hL:LoBox w gL S) (h1:ws.length=S.n1) (h2:bs.length=S.n2) (h3:x.length=S.nx)
  (hW:RatsAt w S.a1 (ws.map ratL)) (hB:RatsAt w S.a2 (bs.map ratL)) (hX:FormsAt w S.ax x) (hwl:S.n2 * S.nx<=S.n1) (hN1:S.n1<=1000000) (hN2:S.n2<=1000000) (hNx:S.nx<=1000000)
  (bw:BdL W C ws) (bb:BdL W C bs) (hW0:0 < W) (bx:BdFs D B N x) (hD0:0 < D) (hP:Pay (W * D) (C+B+(S.nx+1) * (C * B))) (hN:N<=500000):
  Calls Tryz.prog 55 #[.pointer (some ⟨gL,0,none⟩)] w (RowAf w (denseF S.n2 bs ws x)):=by
 obtain ⟨HW,HBi,HX,H1,H2,H3⟩:=hd6 hW hB hX h1 h2 h3;obtain ⟨Hwl,HSB,HBw,HBb,HBx,HPy⟩:=hd6 hwl hL bw bb bx hP;clear hW hB hX hwl h1 h2 h3 hL bw bb bx hP
 go_enter Tryz.func55,Tryz.ntmps55
 go_upto_region 2 with fail
 obtain ⟨f0,f1,f2,f3,f4,f5,f6,f7,f8,f9,f10,f11,f12,ff,glt⟩:=HSB.out;go_wp2;clear f0 f1 f2 f3 f4 f5 f6 f7 f8 f9 f10 f11 f12 ff glt
 go_loopw [3,15] (fun v i wr=>∃ (r:Nat) (a:Option Addr) (c:Nat),r<=S.n2/\v=.slice a r c/\i=.int .i64 (r:Int)/\Hid (OutF w wr (.slice a r c) (denseF r bs ws x))) (fun _ i _=>S.n2 - (intOf i).toNat)
 case atStart=>exact ⟨0,none,0,Nat.zero_le _,rfl,rfl,OutF.start w⟩
 case round=>
  obtain ⟨r,b0,k0,hr,rfl,rfl,HOut⟩:=hrel;obtain ⟨wq,hwq⟩:∃ wq:World,wq=wr:=⟨_,rfl⟩
  subst hwq
  by_cases hlt:r < S.n2
  ·have hbr:Below w.heap.size w wq:=HOut.out.bl;obtain ⟨bb,ob,u,un,ud,ucn,ucd,hab,hbb,hu,uc0,uc1,uc2,huv⟩:=HBi.out.pick (k:=r) (by rw [List.length_map,H2.out];exact hlt);obtain ⟨hu1,hu2⟩:=map_get hu;have uc0:=(hbr.cell (p:=⟨bb,ob+r * 3,none⟩) hbb).trans uc0;have uc1:=(hbr.cell (p:=⟨bb,ob+r * 3+1,none⟩) hbb).trans uc1;have uc2:=(hbr.cell (p:=⟨bb,ob+r * 3+2,none⟩) hbb).trans uc2;have hbb2:=Nat.lt_of_lt_of_le hbb hbr.size;have hal1:=blA wq (ratO u un ucn ud ucd 51);have ub:=Box3.alloc wq (.bool u.neg) (.slice un u.num.length ucn) (.slice ud u.den.length ucd) 51;obtain ⟨HNum,HOut1,Hu2⟩:=hd3 (lNumber (q:=bs.getD r 0) (show RatV _ _ (ratL (bs.getD r 0)) from by have h:=(huv.below hbr).below hal1;rw [hu2] at h;rw [<- hu2] at h ⊢;exact h)) (HOut.out.below hal1) hu2;rw [hab];clear hu hu1 hu2 huv hbr hal1 hab
   go_upto_region 5 with fail
   generalize wq.alloc (ratO u un ucn ud ucd 51)=Wg at *;clear uc0 uc1 uc2;obtain ⟨u0,u1,u2,uf,ult⟩:=ub
   go_wp2_with fail
   refine HNum.out.mono ?_
   rintro e w5 ⟨v5,rfl,hv,hb⟩;obtain ⟨na,nn,nc,nb,nan,nnn,ncn,nad,nnd,ncd,rfl⟩:=hv.spell;obtain ⟨HOut2,HNF⟩:=hd2 (HOut1.out.below hb) hv.fp;clear HNum hv hb u0 u1 u2 uf ult HOut1;have HAc:=hid (AcF.make (Below.refl w5.heap.size w5) (Below.refl w5.heap.size w5) HNF.out 53);have hbl5:=HAc.out.bl;have HSn:=hid (HSB.out.below (HOut2.out.below hbl5).bl);clear hbl5
   go_upto_region 6 with fail
   generalize w5.alloc (.cells #[.slice na nn nc,.bool nb,.slice nan nnn ncn,.slice nad nnd ncd] 53)=Wh at *;have f10:=HSn.out.f10;have ff:=HSn.out.free;have glt:=HSn.out.lt;go_wp2;clear f10 ff glt
   go_loopw [27] (fun i wi=>∃ k:Nat,k<=S.nx/\i=.int .i64 (k:Int)/\Hid (AcF w5 wi w5.heap.size (sumF (bs.getD r 0) ws (r * S.nx) (iotaZ S.nx) x k))) (fun i _=>S.nx - (intOf i).toNat)
   case atStart=>exact ⟨0,Nat.zero_le _,rfl,HAc.out⟩
   case round=>
    obtain ⟨k,hk,rfl,HI⟩:=hrel
    by_cases hlk:k < S.nx
    ·obtain ⟨p0,hp0⟩:∃ p0,p0=r * S.nx:=⟨_,rfl⟩
     have hmul:p0+k < S.n1:=by
      have e1:(r+1) * S.nx<=S.n2 * S.nx:=Nat.mul_le_mul_right _ hlt;have e2:=Hwl.out;rw [Nat.succ_mul, <- hp0] at e1;omega
     have hbi:Below w.heap.size w wr:=(HOut2.out.below HI.out.bl).bl;obtain ⟨bw,ow,v,vn,vd,vcn,vcd,haw,hbw,hv,wc0,wc1,wc2,hwv⟩:=HW.out.pick (k:=p0+k) (by rw [List.length_map,H1.out];exact hmul);obtain ⟨bx,ox,y,q0,q1,q2,q3,hax,hbx,hyy,yc0,yc1,yc2,yc3,hyv⟩:=HX.out.pick (k:=k) (by rw [H3.out];exact hlk);obtain ⟨ya,yn,yc,yb,yan,ynn,ycn,yad,ynd,ycd,rfl,rfl,rfl,rfl⟩:=hyv.spell;obtain ⟨hv1,hv2⟩:=map_get hv;have hxk:x.getD k zerA=y:=by rw [List.getD_eq_getElem?_getD,hyy];rfl
     obtain ⟨s,hs⟩:∃ s,s=sumF (bs.getD r 0) ws (r * S.nx) (iotaZ S.nx) x k:=⟨_,rfl⟩
     obtain ⟨s1,hs1⟩:∃ s1,s1=sumF (bs.getD r 0) ws (r * S.nx) (iotaZ S.nx) x (k+1):=⟨_,rfl⟩
     obtain ⟨pr,hpr⟩:∃ pr,pr=scA (ws.getD (p0+k) 0) y:=⟨_,rfl⟩
     have hq:addA 1 s pr=s1:=by
      rw [hs,hpr,hs1, <- hxk];have h:=sumF_step (b:=bs.getD r 0) (ws:=ws) (off:=r * S.nx) (k:=k) (x:=x) (by rw [H3.out];exact hlk);rw [H3.out, <- hp0] at h;rw [<- hp0,h]
     have HI1:=HI.out;rw [<- hs] at HI1;have hal:=blA wr (.cells #[.slice ya yn yc,.bool yb,.slice yan ynn ycn,.slice yad ynd ycd] 53);obtain ⟨HI2,HYb,HBj⟩:=hd3 (HI1.below hal) (Box4.alloc wr (.slice ya yn yc) (.bool yb) (.slice yan ynn ycn) (.slice yad ynd ycd) 53) (hbi.trans (hal.mono hbi.size));have HSj:=hid (HSB.out.below HBj.out);have hgl:w5.heap.size < wr.heap.size:=HI1.lt;obtain ⟨HS1,HHs,HHpr,HHv,HHq,Hyb⟩:=hd6 hs1 hs hpr (And.intro hv1 hv2) hq (show BdF D B N y from by rw [<- hxk];exact HBx.out.at hD0 k);have m0:IntKind.i64.wrap ((r:Int) * (S.nx:Int))=(p0:Int):=by
      rw [<- Int.natCast_mul, <- hp0];exact IntWalk.i64_in _ (by omega)
     obtain ⟨hyv',hwv'⟩:=hd2 hyv.val hwv;have uy0:=(hbi.cell (p:=⟨bx,ox+k * 4,none⟩) hbx).trans yc0;have uy1:=(hbi.cell (p:=⟨bx,ox+k * 4+1,none⟩) hbx).trans yc1;have uy2:=(hbi.cell (p:=⟨bx,ox+k * 4+2,none⟩) hbx).trans yc2;have uy3:=(hbi.cell (p:=⟨bx,ox+k * 4+3,none⟩) hbx).trans yc3;have hbx2:=Nat.lt_of_lt_of_le hbx hbi.size;have HHp0:=hid hp0;rw [hax];clear HI1 hv1 hv2 hyy hs hs1 hpr hq hal hv hyv hwv hp0 hbi hxk
     go_upto_region 9 with fail
     generalize wr.alloc (.cells #[.slice ya yn yc,.bool yb,.slice yan ynn ycn,.slice yad ynd ycd] 53)=wj at *;obtain ⟨sa,sn,sc,sb,san,snn,scn,sad,snd,scd,hbxs⟩:=HI2.out.spell;have HSf:=hid hbxs.fm.val;have HMul:Hid (∀ W',Below wj.heap.size wj W'->Calls Tryz.prog 89 #[.agg #[.slice ya yn yc,.bool yb,.slice yan ynn ycn,.slice yad ynd ycd],.agg #[.bool v.neg,.slice vn v.num.length vcn,.slice vd v.den.length vcd]] W' (RetAf W' pr)):=fun W' hb=>by
      have hbw2:=HBj.out.trans (hb.mono HBj.out.size);rw [HHpr.out]
      refine lScale (hyv'.out.below hbw2) (k:=ws.getD (p0+k) 0) (by have h:=hwv'.out.below hbw2;rw [HHv.out.2] at h;rw [<- HHv.out.2] at h ⊢;exact h) (HBw.out.at hW0 _) Hyb.out (HPy.out.le (Nat.le_refl _) ?_) hN
      rw [Nat.succ_mul];omega
     have HAdd:Hid (∀ W',Below wj.heap.size wj W'->∀ z,FormV W' z pr->Calls Tryz.prog 60 #[.agg #[.slice sa sn sc,.bool sb,.slice san snn scn,.slice sad snd scd],z] W' (RetAf W' s1)):=fun W' hb z hz=>by
      rw [<- HHq.out]
      refine lAdd (HSf.out.below hb) hz (B:=C+k * (C * B)) (C:=C * B) (D:=W * D) (N:=N) ?_ ?_ (HPy.out.le (Nat.le_refl _) ?_) hN
      ·rw [HHs.out];exact BdF.sum (HBb.out.at hW0 _) HBw.out HBx.out hD0 _ _ _
      ·rw [HHpr.out];exact BdF.sc (HBw.out.at hW0 _) Hyb.out
      ·have:(k+1) * (C * B)<=S.nx * (C * B):=Nat.mul_le_mul_right _ hlk;rw [Nat.succ_mul] at this ⊢;omega
     have HCe:Hid (∀ W',Below wj.heap.size wj W'->W'.cell? ⟨w5.heap.size,0,none⟩=some (.slice sa sn sc)/\W'.cell? ⟨w5.heap.size,1,none⟩=some (.bool sb)/\W'.cell? ⟨w5.heap.size,2,none⟩=some (.slice san snn scn)/\W'.cell? ⟨w5.heap.size,3,none⟩=some (.slice sad snd scd)/\
       W'.cell? ⟨gL,7,none⟩=some (.slice (some ⟨bw,ow,none⟩) S.n1 S.c1)/\W'.cell? ⟨gL,10,none⟩=some (.slice (some ⟨bx,ox,none⟩) S.nx S.cx)/\
       W'.cell? ⟨bw,ow+(p0+k) * 3,none⟩=some (.bool v.neg)/\W'.cell? ⟨bw,ow+(p0+k) * 3+1,none⟩=some (.slice vn v.num.length vcn)/\W'.cell? ⟨bw,ow+(p0+k) * 3+2,none⟩=some (.slice vd v.den.length vcd)/\
       W'.cell? ⟨wr.heap.size,0,none⟩=some (.slice ya yn yc)/\W'.cell? ⟨wr.heap.size,1,none⟩=some (.bool yb)/\W'.cell? ⟨wr.heap.size,2,none⟩=some (.slice yan ynn ycn)/\W'.cell? ⟨wr.heap.size,3,none⟩=some (.slice yad ynd ycd)):=fun W' hb=>by
      have hbw2:=HBj.out.trans (hb.mono HBj.out.size);have g7:=(HSj.out.below hb).f7;have g10:=(HSj.out.below hb).f10;rw [haw] at g7;rw [hax] at g10;exact ⟨(hb.cell hbxs.bx.lt).trans hbxs.bx.c0,(hb.cell hbxs.bx.lt).trans hbxs.bx.c1,(hb.cell hbxs.bx.lt).trans hbxs.bx.c2,(hb.cell hbxs.bx.lt).trans hbxs.bx.c3,g7,g10,(hbw2.cell hbw).trans wc0,(hbw2.cell hbw).trans wc1,(hbw2.cell hbw).trans wc2,
       (hb.cell HYb.out.lt).trans HYb.out.c0,(hb.cell HYb.out.lt).trans HYb.out.c1,(hb.cell HYb.out.lt).trans HYb.out.c2,(hb.cell HYb.out.lt).trans HYb.out.c3⟩
     have hs0:=hbxs.bx.lt;have hs9:=HYb.out.lt;clear wc0 wc1 wc2 yc0 yc1 yc2 yc3 uy0 uy1 uy2 uy3 hbxs
     refine wp_region_slots_tail 20 (by kernel_rfl) (by kernel_rfl) (by kernel_rfl) (by kernel_rfl) (by decide) (From wj.heap.size wj) (fun w w'=>Below w.heap.size w w') (GQ [.val (.agg #[.slice sa sn sc,.bool sb,.slice san snn scn,.slice sad snd scd]),.val (.agg #[.slice ya yn yc,.bool yb,.slice yan ynn ycn,.slice yad ynd ycd]),.val (.pointer (some ⟨gL,0,none⟩)),.val (.pointer (some ⟨gL,0,none⟩)),.val (.pointer (some ⟨gL,0,none⟩)),.val (.pointer (some ⟨gL,7,none⟩)),.val (.slice (some ⟨bw,ow,none⟩) S.n1 S.c1),.val (.int .i64 (r:Int)),.val (.pointer (some ⟨gL,0,none⟩)),.val (.pointer (some ⟨gL,0,none⟩)),.val (.pointer (some ⟨gL,10,none⟩)),.val (.slice (some ⟨bx,ox,none⟩) S.nx S.cx),.val (.int .i64 (S.nx:Int)),.val (.int .i64 (p0:Int)),.val (.int .i64 (k:Int)),.val (.int .i64 ((p0:Int)+(k:Int))),.val (.pointer (some ⟨bw,ow+(p0+k) * 3,none⟩)),.val (.agg #[.bool v.neg,.slice vn v.num.length vcn,.slice vd v.den.length vcd]),.frm pr,.frm s1]) (fun i v w w' h hb=>GQ_below h hb) (From.start (Nat.le_refl _)) ?_ ?_
     ·intro ops;simp only [List.take_succ_cons,List.take_zero,Shows]
      refine ⟨?v0,?v1,?v2,?v3,?v4,?v5,?v6,?v7,?v8,?v9,?v10,?v11,?v12,?v13,?v14,?v15,?v16,?v17,?_,?_,trivial⟩
      all_goals (intro y' X hR hL;have hB:=hR.base;obtain ⟨x0,x1,x2,x3,f7,f10,wc0,wc1,wc2,yc0,yc1,yc2,yc3⟩:=HCe.out X hR.be;simp only [Laid,Region.binds,forall_const,Bool.false_eq_true,false_implies,GQ,List.getElem?_cons_zero,List.getElem?_cons_succ] at hL;simp [fillFrom,Act.put])
      case v0|v1|v2|v3|v4|v5|v6|v7|v8|v9|v10|v11|v12|v13|v14|v15|v16|v17=>
       try simp only [hL]
       clear hL;have HR:=hid hR;clear hR;go_wp2;exact ⟨_,rfl,HR.out,Below.refl _ _,rfl⟩
      ·try simp only [hL]
       clear hL;have HR:=hid hR;clear hR;have HCt:=hid (HMul.out X HR.out.be)
       go_wp2_with fail
       refine HCt.out.mono ?_
       rintro e w1 ⟨v1,rfl,kv,kb⟩;obtain ⟨KV,KB⟩:=hd2 kv kb;clear kv kb HCt;go_wp2;exact ⟨_,rfl,⟨Nat.le_trans HR.out.base KB.out.size,HR.out.be.trans (KB.out.mono HR.out.base)⟩,KB.out,KV.out⟩
      ·generalize y' 0=y0 at hL ⊢;generalize y' 18=y18 at hL ⊢;obtain ⟨rfl,H18,_,_⟩:=hL;obtain ⟨K18,HR⟩:=hd2 H18 hR;clear hR H18;have HCt:=hid (HAdd.out X HR.out.be _ K18.out)
       go_wp2_with fail
       refine HCt.out.mono ?_
       rintro e w1 ⟨v1,rfl,kv,kb⟩;obtain ⟨KV,KB⟩:=hd2 kv kb;clear kv kb HCt;go_wp2;exact ⟨_,rfl,⟨Nat.le_trans HR.out.base KB.out.size,HR.out.be.trans (KB.out.mono HR.out.base)⟩,KB.out,KV.out⟩
     ·intro ops y' X hR hL;have hB:=hR.base;have J19:=hL.2;simp only [GQ,List.getElem?_cons_zero,List.getElem?_cons_succ] at J19;obtain ⟨x0,x1,x2,x3,f7,f10,wc0,wc1,wc2,yc0,yc1,yc2,yc3⟩:=HCe.out X hR.be;clear hL;simp only [List.take_succ_cons,List.take_zero,List.drop_succ_cons,List.drop_zero];simp [fillFrom,Act.put];generalize y' 19=y19 at J19 ⊢;have HR:=hid hR;clear hR;obtain ⟨ra,rn,rc,rb,ran,rnn,rcn,rad,rnd,rcd,rfl⟩:=J19.spell;have HBe:=hid (show Below wj.heap.size wj X from HR.out.be);have HStep:=hid (HI2.out.step HBe.out J19.fp);obtain ⟨_,_,_,_,hbz⟩:=(HI2.out.below HBe.out).ex;obtain ⟨z0,z1,z2,z3,zf,zlt⟩:=hbz.bx;clear J19 hbz;go_wp2;go_roundw
      case rel=>exact ⟨k+1,hlk,by go_num,by rw [<- HS1.out];exact HStep.out⟩
      case measure=>simp [intOf];omega
    ·obtain rfl:k=S.nx:=by omega
     obtain ⟨s,hs⟩:∃ s,s=denseFO bs ws x r:=⟨_,rfl⟩
     have hbx:AcF w5 wr w5.heap.size s:=by
      have h:=HI.out;rw [hs,show denseFO bs ws x r=sumF (bs.getD r 0) ws (r * S.nx) (iotaZ S.nx) x S.nx by unfold denseFO;rw [H3.out]];exact h
     have HStep:Hid _:=denseF_succ r bs ws x;rw [<- hs] at HStep;obtain ⟨sa,sn,sc,sb,san,snn,scn,sad,snd,scd,hbxs⟩:=hbx.spell;have HRow:=hid (One4.form hbxs.fm 53);obtain ⟨x0,x1,x2,x3,_,xlt⟩:=hbxs.bx;obtain ⟨HOw,HLn⟩:=hd2 ((HOut2.out.below hbx.bl).below ((Below.refl wr.heap.size wr).alloc (Nat.le_refl _) (.cells #[.slice sa sn sc,.bool sb,.slice san snn scn,.slice sad snd scd] 53))) (denseF_len r bs ws x);clear hbx hbxs hs
     go_wp2_with (at_builtin;refine wpList_app4 (T:=53) formK (.slice none 0 0) (.bool false) (.slice none 0 0) (.slice none 0 0) 80 (by intro u hu;simp at hu;rcases hu with rfl | rfl | rfl | rfl <;> rfl) rfl (.tmp 53) (.tmp 55) 28 rfl w.heap.size Tryz.underlying28 (by kernel_rfl) (by omega) (.slice b0 r k0) r _ HLn.out rfl HOw.out.own _ s HRow.out rfl (by omega) HOw.out.bl.size ?_;intro b3 k3 w3 hown hk3 hg hbe hnx;have HOut3:=hid (show OutF w w3 (.slice b3 (r+1) k3) (denseF (r+1) bs ws x) from ⟨by rw [HStep.out];exact hown,HOw.out.bl.trans hbe⟩);clear hown hg hbe hnx)
     go_roundw
     case rel=>exact ⟨r+1,b3,k3,hlt,rfl,by go_num,HOut3.out⟩
     case measure=>simp [intOf];omega
  ·obtain rfl:r=S.n2:=by omega
   go_wp2;exact bodyPost_ret (v:=.slice b0 S.n2 k0) (by simp [results,Tryz.results55,go_sem]) rfl (HOut.out.ret (denseF_len S.n2 bs ws x))
theorem Own4.mono {α:Type} {P:World->Value->Value->Value->Value->α->Prop} {p:Value->Bool} {T:TypeId} {w:World} {base b2:Nat} {v:Value} {L:List α} (h:Own4 P p T w base v L) (hb:b2<=base):Own4 P p T w b2 v L:=by
 obtain ⟨⟨xs,ho,he⟩,ha⟩:=h
 refine ⟨⟨xs,⟨ho.1,ho.2.imp id ?_⟩,he⟩,ha⟩
 rintro ⟨g,cap,cur,e,hg,r⟩;exact ⟨g,cap,cur,e,Nat.le_trans hb hg,r⟩
theorem RBox.grownF {w w':World} {g:Nat} {x:RatL} {v:Value} (h:RBox w g x) (hg:w.grownBy w' v.ownBlock) (hn:NoO w v) (hne:v.ownBlock ≠ some g):RBox w' g x:=by
 obtain ⟨⟨an,ad,cn,cd,⟨c0,c1,c2,cf,clt⟩,h2,h3,h4,h5⟩,h6⟩:=h;have hb:∀ o,w'.cell? ⟨g,o,none⟩=w.cell? ⟨g,o,none⟩:=fun o=>World.cell?_of_block (hg.block g clt (fun e=>hne e.symm))
 have hf:∀ o,w'.frozen? ⟨g,o,none⟩=w.frozen? ⟨g,o,none⟩:=fun o=>World.frozen?_of_block (hg.block g clt (fun e=>hne e.symm))
 exact ⟨⟨an,ad,cn,cd,⟨(hb 0).trans c0,(hb 1).trans c1,(hb 2).trans c2,fun o=>(hf o).trans (cf o),Nat.lt_of_lt_of_le clt hg.size⟩,h2,h3,h4.grown hg hn,h5.grown hg hn⟩,fun o u e=>h6 o u ((hb o).symm.trans e)⟩
structure OutCF (W wr:World) (v:Value) (L:List AffQ) (g:Nat) (u:RatL):Prop where
 out:OutF W wr v L
 box:RBox wr g u
 ne:v.ownBlock ≠ some g
theorem OutCF.below {W wr w':World} {v:Value} {L:List AffQ} {g:Nat} {u:RatL} (h:OutCF W wr v L g u) (hb:Below wr.heap.size wr w'):OutCF W w' v L g u:=⟨h.out.below hb,h.box.below hb,h.ne⟩
theorem OutCF.start {W wr:World} {v:Value} {L:List AffQ} (h:OutF W wr v L) {an ad:Option Addr} {cn cd:Nat} {u:RatL} (h2:u.num.length<=cn) (h3:u.den.length<=cd) (h4:U32s wr an u.num) (h5:U32s wr ad u.den) (T:Nat):
  OutCF W (wr.alloc (.cells #[.bool u.neg,.slice an u.num.length cn,.slice ad u.den.length cd] T)) v L wr.heap.size u:=
 ⟨h.below ((Below.refl _ _).alloc (Nat.le_refl _) _),RBox.alloc h2 h3 h4 h5 T,fun e=>by have:=(h.own.lt e).2;omega⟩
theorem OutCF.app {W wr w':World} {v v':Value} {L L':List AffQ} {g:Nat} {u:RatL} (h:OutCF W wr v L g u) (ho:OwnF w' W.heap.size v' L') (hg:wr.grownBy w' v.ownBlock) (hb:Below W.heap.size wr w') (hn:Next wr v v'):OutCF W w' v' L' g u:=by
 refine ⟨⟨ho,h.out.bl.trans hb⟩,h.box.grownF hg h.out.own.al.bs h.ne,?_⟩
 rcases hn with e | ⟨k,e,hk⟩
 ·rw [e];exact h.ne
 ·rw [e];intro e2;cases e2;have:=h.box.lt;omega
def flatF (f:Nat->Nat->AffQ) (T k i:Nat):List AffQ:=((List.range k).flatMap fun o=>(List.range T).map (f o))++(List.range i).map (f k)
theorem flatF_len (f:Nat->Nat->AffQ) (T k i:Nat):(flatF f T k i).length=k * T+i:=by
 have:∀ k,((List.range k).flatMap fun o=>(List.range T).map (f o)).length=k * T:=by
  intro k
  induction k with
  | zero=>simp
  | succ k ih=>rw [List.range_succ,List.flatMap_append,List.length_append,ih,Nat.succ_mul];simp
 rw [flatF,List.length_append,this];simp
theorem flatF_succ (f:Nat->Nat->AffQ) (T k i:Nat):flatF f T k (i+1)=flatF f T k i++[f k i]:=by simp [flatF,List.range_succ]
theorem flatF_next (f:Nat->Nat->AffQ) (T k:Nat):flatF f T k T=flatF f T (k+1) 0:=by simp [flatF,List.range_succ]
def convFO (bs ws:List Rat) (n:Nat) (win:List (List Int)) (x:List AffQ) (o i:Nat):AffQ:=sumF (bs.getD o 0) ws (o * n) (win.getD i []) x (win.getD i []).length
theorem sumF_at {b:Rat} {ws:List Rat} {off k n:Nat} {ix:List Int} {x:List AffQ} (h:ix.getD k 0=(n:Int)):sumF b ws off ix x (k+1)=addA 1 (sumF b ws off ix x k) (scA (ws.getD (off+k) 0) (x.getD n zerA)):=by
 show (if 0<=ix.getD k 0 then _ else _)=_
 rw [h,if_pos (by omega)];rfl
theorem sumF_skip {b:Rat} {ws:List Rat} {off k:Nat} {ix:List Int} {x:List AffQ} (h:¬ 0<=ix.getD k 0):sumF b ws off ix x (k+1)=sumF b ws off ix x k:=by
 show (if 0<=ix.getD k 0 then _ else _)=_
 rw [if_neg h]
theorem lConv {w:World} {gL:Nat} {S:LowV} {bs ws:List Rat} {x:List AffQ} {sh:List Int} {win:List (List Int)} {n T W C D B N:Nat} {F:Nat->Prop} (hL:LoBox w gL S) (h1:ws.length=S.n1) (h2:bs.length=S.n2) (h3:x.length=S.nx) (h4:sh.length=S.nS)
  (hW:RatsAt w S.a1 (ws.map ratL)) (hB:RatsAt w S.a2 (bs.map ratL)) (hX:FormsAt w S.ax x) (hS:Ints w F S.aS sh)
  (hwin:(windowsL sh S.kh S.kw S.st S.pd).1=win) (hT:T=win.length) (hlen:∀ ix ∈ win,ix.length=n) (hix:∀ ix ∈ win,∀ i ∈ ix,i < x.length)
  (hwl:S.n2 * n<=S.n1) (hN1:S.n1<=1000000) (hN2:S.n2<=1000000) (hNx:S.nx<=1000000) (hn2:n<=1000000) (hT2:T<=1000000) (hOT:S.n2 * T<=1000000)
  (bw:BdL W C ws) (bb:BdL W C bs) (hW0:0 < W) (bx:BdFs D B N x) (hD0:0 < D) (hP:Pay (W * D) (C+B+(n+1) * (C * B))) (hN:N<=500000):
  Calls Tryz.prog 56 #[.pointer (some ⟨gL,0,none⟩)] w (RowAf w (flatF (convFO bs ws n win x) T S.n2 0)):=by
 obtain ⟨HW,HBi,HX,H1,H2,H3⟩:=hd6 hW hB hX h1 h2 h3;obtain ⟨Hwl,HT,HLen,HIx,HOT,HSB⟩:=hd6 hwl hT hlen hix hOT hL;obtain ⟨HBw,HBb,HBx,HPy⟩:=hd4 bw bb bx hP;have HWn:=lWindows hL h4 hS;rw [hwin] at HWn;have HWn:=hid HWn;clear hW hB hX hwl h1 h2 h3 h4 hS hwin hT hlen hix hOT hL bw bb bx hP
 go_enter Tryz.func56,Tryz.ntmps56
 go_wp2_with fail
 refine HWn.out.mono ?_
 rintro e Wx ⟨aw,cw,rfl,hI,hb⟩;rw [<- HT.out];obtain ⟨HI,HSx,HBx0⟩:=hd3 hI (HSB.out.below hb) hb;clear hI hb HWn HSB;obtain ⟨f0,f1,f2,f3,f4,f5,f6,f7,f8,f9,f10,f11,f12,ff,glt⟩:=HSx.out;go_wp2;clear f0 f1 f2 f3 f4 f5 f6 f7 f8 f9 f10 f11 f12 ff glt
 go_loopw [3,20] (fun v i wr=>∃ (r m:Nat) (a:Option Addr) (c:Nat),r<=S.n2/\Hid (m=r * T)/\v=.slice a m c/\i=.int .i64 (r:Int)/\Hid (OutF Wx wr (.slice a m c) (flatF (convFO bs ws n win x) T r 0))) (fun _ i _=>S.n2 - (intOf i).toNat)
 case atStart=>exact ⟨0,0,none,0,Nat.zero_le _,by unfold Hid;omega,rfl,rfl,OutF.start Wx⟩
 case round=>
  obtain ⟨r,m,b0,k0,hr,HM,rfl,rfl,HOut⟩:=hrel;obtain ⟨wq,hwq⟩:∃ wq:World,wq=wr:=⟨_,rfl⟩
  subst hwq
  by_cases hlt:r < S.n2
  ·have hbr:Below w.heap.size w wq:=HBx0.out.trans (HOut.out.bl.mono HBx0.out.size);obtain ⟨bb,ob,u,un,ud,ucn,ucd,hab,hbb,hu,uc0,uc1,uc2,huv⟩:=HBi.out.pick (k:=r) (by rw [List.length_map,H2.out];exact hlt);obtain ⟨hu1,hu2⟩:=map_get hu;have uc0:=(hbr.cell (p:=⟨bb,ob+r * 3,none⟩) hbb).trans uc0;have uc1:=(hbr.cell (p:=⟨bb,ob+r * 3+1,none⟩) hbb).trans uc1;have uc2:=(hbr.cell (p:=⟨bb,ob+r * 3+2,none⟩) hbb).trans uc2;obtain ⟨q2,q3,q4,q5⟩:=huv.parts;obtain ⟨Hu2,HOc0⟩:=hd2 hu2 (OutCF.start HOut.out q2 q3 (q4.below hbr) (q5.below hbr) 51);rw [hab];clear hu hu1 hu2 huv q4 q5 hbr hab
   go_upto_region 6 with fail
   generalize wq.alloc (ratO u un ucn ud ucd 51)=Wg at *;clear uc0 uc1 uc2;go_wp2
   go_loopw [3,27] (fun v j wr=>∃ (i m:Nat) (a:Option Addr) (c:Nat),i<=T/\Hid (m=r * T+i)/\v=.slice a m c/\j=.int .i64 (i:Int)/\Hid (OutCF Wx wr (.slice a m c) (flatF (convFO bs ws n win x) T r i) wq.heap.size u)) (fun _ j _=>T - (intOf j).toNat)
   case atStart=>exact ⟨0,m,b0,k0,Nat.zero_le _,HM.out,rfl,rfl,HOc0.out⟩
   case round=>
    clear HM HOut HOc0;obtain ⟨i,m,b0,k0,hi0,HM,rfl,rfl,HOc⟩:=hrel;obtain ⟨wv,hwv⟩:∃ wv:World,wv=wr:=⟨_,rfl⟩
    subst hwv
    by_cases hi:i < T
    ·have hmT:m+1<=1000000:=by
      have h1:(r+1) * T<=S.n2 * T:=Nat.mul_le_mul_right _ hlt;have h2:=HOT.out;have h3:=HM.out;rw [Nat.succ_mul] at h1;omega
     obtain ⟨bt,ot,l,ai,ci,haw',tc0,hl,hlc,hIl,hbt,_⟩:=HI.out.pickc (k:=i) (by have:=HT.out;omega);have hmem:=List.mem_of_getElem? hl;have hln:l.length=n:=HLen.out l hmem;rw [hln] at tc0 hlc;have tc0:=(HOc.out.out.bl.cell (p:=⟨bt,ot+i,none⟩) hbt).trans tc0;obtain ⟨HIl,HMem,HLn⟩:=hd3 (hIl.below HOc.out.out.bl) hmem hln;have hbt2:=Nat.lt_of_lt_of_le hbt HOc.out.out.bl.size;have HGl:Hid (win.getD i []=l):=by unfold Hid;rw [List.getD_eq_getElem?_getD,hl];rfl
     obtain ⟨un,ud,ucn,ucd,⟨c0,c1,c2,cff,clt⟩,u2,u3,u4,u5⟩:=HOc.out.box.ex;have HNum:=hid (lNumber (q:=bs.getD r 0) (show RatV wv (.agg #[.bool u.neg,.slice un u.num.length ucn,.slice ud u.den.length ucd]) (ratL (bs.getD r 0)) from by have h:RatV wv (.agg #[.bool u.neg,.slice un u.num.length ucn,.slice ud u.den.length ucd]) u:=⟨un,ud,ucn,ucd,rfl,u2,u3,u4,u5⟩;rw [Hu2.out] at h;rw [<- Hu2.out] at h ⊢;exact h));rw [haw'];clear hl hIl hmem hln u4 u5
     go_upto_region 9 with fail
     go_wp2_with fail
     refine HNum.out.mono ?_
     rintro e w5 ⟨v5,rfl,hv,hb⟩;obtain ⟨na,nn,nc,nb,nan,nnn,ncn,nad,nnd,ncd,rfl⟩:=hv.spell;obtain ⟨HOc5,HIl5⟩:=hd2 (HOc.out.below hb) (HIl.out.below hb);have hbt5:=Nat.lt_of_lt_of_le hbt2 hb.size;have HNF:=hid hv.fp;have HAc:=hid (AcF.make (Below.refl w5.heap.size w5) (Below.refl w5.heap.size w5) HNF.out 53);clear HNum hv hb c0 c1 c2 cff clt tc0 HOc HIl hbt2
     go_upto_region 10 with fail
     generalize w5.alloc (.cells #[.slice na nn nc,.bool nb,.slice nan nnn ncn,.slice nad nnd ncd] 53)=Wh at *;go_wp2
     go_loopw [35] (fun i wi=>∃ k:Nat,k<=n/\i=.int .i64 (k:Int)/\Hid (AcF w5 wi w5.heap.size (sumF (bs.getD r 0) ws (r * n) l x k))) (fun i _=>n - (intOf i).toNat)
     case atStart=>exact ⟨0,Nat.zero_le _,rfl,HAc.out⟩
     case round=>
      obtain ⟨k,hk,rfl,HIr⟩:=hrel;have HBw':=hid (HBx0.out.trans ((HOc5.out.out.bl.trans (HIr.out.bl.mono HOc5.out.out.bl.size)).mono HBx0.out.size))
      by_cases hlk:k < n
      ·obtain ⟨bi,oi,d,hai,ic,hd,_,hbi,_,hd1,hd2_⟩:=HIl5.out.pick2 (k:=k) (by rw [HLn.out];exact hlk);have hgd:l.getD k 0=d:=getD_of hd;have ic:=(HIr.out.bl.cell (p:=⟨bi,oi+k,none⟩) hbi).trans ic;have hbi2:=Nat.lt_of_lt_of_le hbi HIr.out.bl.size
       by_cases h0:0<=d
       ·obtain ⟨nn,rfl⟩:∃ nn:Nat,d=(nn:Int):=⟨d.toNat,by omega⟩
        have hnx:nn < x.length:=by
         have:=HIx.out l HMem.out _ (List.mem_of_getElem? hd);omega
        obtain ⟨p0,hp0⟩:∃ p0,p0=r * n:=⟨_,rfl⟩
        have hmul:p0+k < S.n1:=by
         have e1:(r+1) * n<=S.n2 * n:=Nat.mul_le_mul_right _ hlt;have e2:=Hwl.out;rw [Nat.succ_mul, <- hp0] at e1;omega
        obtain ⟨bw,ow,v,vn,vd,vcn,vcd,haw,hbw,hv,wc0,wc1,wc2,hwv⟩:=HW.out.pick (k:=p0+k) (by rw [List.length_map,H1.out];exact hmul);obtain ⟨bx,ox,y,q0,q1,q2,q3,hax,hbx,hyy,yc0,yc1,yc2,yc3,hyv⟩:=HX.out.pick (k:=nn) hnx;obtain ⟨ya,yn,yc,yb,yan,ynn,ycn,yad,ynd,ycd,rfl,rfl,rfl,rfl⟩:=hyv.spell;have hnx2:nn < S.nx:=by rw [<- H3.out];exact hnx
        obtain ⟨hv1,hv2⟩:=map_get hv;have hxk:x.getD nn zerA=y:=by rw [List.getD_eq_getElem?_getD,hyy];rfl
        obtain ⟨s,hs⟩:∃ s,s=sumF (bs.getD r 0) ws (r * n) l x k:=⟨_,rfl⟩
        obtain ⟨s1,hs1⟩:∃ s1,s1=sumF (bs.getD r 0) ws (r * n) l x (k+1):=⟨_,rfl⟩
        obtain ⟨pr,hpr⟩:∃ pr,pr=scA (ws.getD (p0+k) 0) y:=⟨_,rfl⟩
        have hq:addA 1 s pr=s1:=by
         rw [hs,hpr,hs1,sumF_at hgd,hxk, <- hp0]
        have HI1:=HIr.out;rw [<- hs] at HI1;obtain ⟨HS1,HI1,HHs,HHpr,HHv,HHq⟩:=hd6 hs1 HI1 hs hpr (And.intro hv1 hv2) hq;have Hyb:=hid (show BdF D B N y from by rw [<- hxk];exact HBx.out.at hD0 nn);have m0:IntKind.i64.wrap ((r:Int) * (n:Int))=(p0:Int):=by
         rw [<- Int.natCast_mul, <- hp0];exact IntWalk.i64_in _ (by omega)
        obtain ⟨hyv',hwv'⟩:=hd2 hyv.val hwv;have q0:decide ((0:Int)<=(nn:Int))=true:=decide_eq_true (by omega);obtain ⟨sa,sn,sc,sb,san,snn,scn,sad,snd,scd,hbxs⟩:=HI1.out.spell;have HSf:=hid hbxs.fm.val;have HMul:Hid (∀ W',Below wr.heap.size wr W'->Calls Tryz.prog 89 #[.agg #[.slice ya yn yc,.bool yb,.slice yan ynn ycn,.slice yad ynd ycd],.agg #[.bool v.neg,.slice vn v.num.length vcn,.slice vd v.den.length vcd]] W' (RetAf W' pr)):=fun W' hb=>by
         have hbw2:=HBw'.out.trans (hb.mono HBw'.out.size);rw [HHpr.out]
         refine lScale (hyv'.out.below hbw2) (k:=ws.getD (p0+k) 0) (by have h:=hwv'.out.below hbw2;rw [HHv.out.2] at h;rw [<- HHv.out.2] at h ⊢;exact h) (HBw.out.at hW0 _) Hyb.out (HPy.out.le (Nat.le_refl _) ?_) hN
         rw [Nat.succ_mul];omega
        have HAdd:Hid (∀ W',Below wr.heap.size wr W'->∀ z,FormV W' z pr->Calls Tryz.prog 60 #[.agg #[.slice sa sn sc,.bool sb,.slice san snn scn,.slice sad snd scd],z] W' (RetAf W' s1)):=fun W' hb z hz=>by
         rw [<- HHq.out]
         refine lAdd (HSf.out.below hb) hz (B:=C+k * (C * B)) (C:=C * B) (D:=W * D) (N:=N) ?_ ?_ (HPy.out.le (Nat.le_refl _) ?_) hN
         ·rw [HHs.out];exact BdF.sum (HBb.out.at hW0 _) HBw.out HBx.out hD0 _ _ _
         ·rw [HHpr.out];exact BdF.sc (HBw.out.at hW0 _) Hyb.out
         ·have:(k+1) * (C * B)<=n * (C * B):=Nat.mul_le_mul_right _ hlk;rw [Nat.succ_mul] at this ⊢;omega
        have HCe:Hid (∀ W',Below wr.heap.size wr W'->W'.cell? ⟨w5.heap.size,0,none⟩=some (.slice sa sn sc)/\W'.cell? ⟨w5.heap.size,1,none⟩=some (.bool sb)/\W'.cell? ⟨w5.heap.size,2,none⟩=some (.slice san snn scn)/\W'.cell? ⟨w5.heap.size,3,none⟩=some (.slice sad snd scd)/\
          W'.cell? ⟨gL,7,none⟩=some (.slice (some ⟨bw,ow,none⟩) S.n1 S.c1)/\W'.cell? ⟨gL,10,none⟩=some (.slice (some ⟨bx,ox,none⟩) S.nx S.cx)/\
          W'.cell? ⟨bw,ow+(p0+k) * 3,none⟩=some (.bool v.neg)/\W'.cell? ⟨bw,ow+(p0+k) * 3+1,none⟩=some (.slice vn v.num.length vcn)/\W'.cell? ⟨bw,ow+(p0+k) * 3+2,none⟩=some (.slice vd v.den.length vcd)/\
          W'.cell? ⟨bx,ox+nn * 4,none⟩=some (.slice ya yn yc)/\W'.cell? ⟨bx,ox+nn * 4+1,none⟩=some (.bool yb)/\W'.cell? ⟨bx,ox+nn * 4+2,none⟩=some (.slice yan ynn ycn)/\W'.cell? ⟨bx,ox+nn * 4+3,none⟩=some (.slice yad ynd ycd)):=fun W' hb=>by
         have hbw2:=HBw'.out.trans (hb.mono HBw'.out.size);have hS2:=(HSx.out.below (HOc5.out.out.bl.trans (HIr.out.bl.mono HOc5.out.out.bl.size))).below hb;have g7:=hS2.f7;have g10:=hS2.f10;rw [haw] at g7;rw [hax] at g10;exact ⟨(hb.cell hbxs.bx.lt).trans hbxs.bx.c0,(hb.cell hbxs.bx.lt).trans hbxs.bx.c1,(hb.cell hbxs.bx.lt).trans hbxs.bx.c2,(hb.cell hbxs.bx.lt).trans hbxs.bx.c3,g7,g10,(hbw2.cell hbw).trans wc0,(hbw2.cell hbw).trans wc1,(hbw2.cell hbw).trans wc2,
          (hbw2.cell hbx).trans yc0,(hbw2.cell hbx).trans yc1,(hbw2.cell hbx).trans yc2,(hbw2.cell hbx).trans yc3⟩
        have hs0:=hbxs.bx.lt;rw [hai];clear hv1 hv2 hs hs1 hpr hq hv hyy hyv hwv hp0 hd hgd hai hax haw wc0 wc1 wc2 yc0 yc1 yc2 yc3 hbxs hxk
        go_upto_region 14 with fail
        clear ic
        refine wp_region_slots_tail 23 (by kernel_rfl) (by kernel_rfl) (by kernel_rfl) (by kernel_rfl) (by decide) (From wr.heap.size wr) (fun w w'=>Below w.heap.size w w') (GQ [.val (.agg #[.slice sa sn sc,.bool sb,.slice san snn scn,.slice sad snd scd]),.val (.pointer (some ⟨gL,0,none⟩)),.val (.pointer (some ⟨gL,0,none⟩)),.val (.pointer (some ⟨gL,10,none⟩)),.val (.slice (some ⟨bx,ox,none⟩) S.nx S.cx),.val (.int .i64 (nn:Int)),.val (.pointer (some ⟨bx,ox+nn * 4,none⟩)),.val (.agg #[.slice ya yn yc,.bool yb,.slice yan ynn ycn,.slice yad ynd ycd]),.val (.pointer (some ⟨gL,0,none⟩)),.val (.pointer (some ⟨gL,0,none⟩)),.val (.pointer (some ⟨gL,0,none⟩)),.val (.pointer (some ⟨gL,7,none⟩)),.val (.slice (some ⟨bw,ow,none⟩) S.n1 S.c1),.val (.int .i64 (r:Int)),.val (.slice (some ⟨bi,oi,none⟩) n ci),.val (.int .i64 (n:Int)),.val (.int .i64 (p0:Int)),.val (.int .i64 (k:Int)),.val (.int .i64 ((p0:Int)+(k:Int))),.val (.pointer (some ⟨bw,ow+(p0+k) * 3,none⟩)),.val (.agg #[.bool v.neg,.slice vn v.num.length vcn,.slice vd v.den.length vcd]),.frm pr,.frm s1]) (fun i v w w' h hb=>GQ_below h hb) (From.start (Nat.le_refl _)) ?_ ?_
        ·intro ops;simp only [List.take_succ_cons,List.take_zero,Shows]
         refine ⟨?v0,?v1,?v2,?v3,?v4,?v5,?v6,?v7,?v8,?v9,?v10,?v11,?v12,?v13,?v14,?v15,?v16,?v17,?v18,?v19,?v20,?_,?_,trivial⟩
         all_goals (intro y' X hR hL;have hB:=hR.base;obtain ⟨x0,x1,x2,x3,f7,f10,wc0,wc1,wc2,yc0,yc1,yc2,yc3⟩:=HCe.out X hR.be;simp only [Laid,Region.binds,forall_const,Bool.false_eq_true,false_implies,GQ,List.getElem?_cons_zero,List.getElem?_cons_succ] at hL;simp [fillFrom,Act.put])
         case v0|v1|v2|v3|v4|v5|v6|v7|v8|v9|v10|v11|v12|v13|v14|v15|v16|v17|v18|v19|v20=>
          try simp only [hL]
          clear hL;have HR:=hid hR;clear hR;go_wp2;exact ⟨_,rfl,HR.out,Below.refl _ _,rfl⟩
         ·try simp only [hL]
          clear hL;have HR:=hid hR;clear hR;have HCt:=hid (HMul.out X HR.out.be)
          go_wp2_with fail
          refine HCt.out.mono ?_
          rintro e w1 ⟨v1,rfl,kv,kb⟩;obtain ⟨KV,KB⟩:=hd2 kv kb;clear kv kb HCt;go_wp2;exact ⟨_,rfl,⟨Nat.le_trans HR.out.base KB.out.size,HR.out.be.trans (KB.out.mono HR.out.base)⟩,KB.out,KV.out⟩
         ·generalize y' 0=y0 at hL ⊢;generalize y' 21=y21 at hL ⊢;obtain ⟨rfl,H21,_,_⟩:=hL;obtain ⟨K21,HR⟩:=hd2 H21 hR;clear hR H21;have HCt:=hid (HAdd.out X HR.out.be _ K21.out)
          go_wp2_with fail
          refine HCt.out.mono ?_
          rintro e w1 ⟨v1,rfl,kv,kb⟩;obtain ⟨KV,KB⟩:=hd2 kv kb;clear kv kb HCt;go_wp2;exact ⟨_,rfl,⟨Nat.le_trans HR.out.base KB.out.size,HR.out.be.trans (KB.out.mono HR.out.base)⟩,KB.out,KV.out⟩
        ·intro ops y' X hR hL;have hB:=hR.base;have J22:=hL.2;simp only [GQ,List.getElem?_cons_zero,List.getElem?_cons_succ] at J22;obtain ⟨x0,x1,x2,x3,f7,f10,wc0,wc1,wc2,yc0,yc1,yc2,yc3⟩:=HCe.out X hR.be;clear hL;simp only [List.take_succ_cons,List.take_zero,List.drop_succ_cons,List.drop_zero];simp [fillFrom,Act.put];generalize y' 22=y22 at J22 ⊢;have HR:=hid hR;clear hR;obtain ⟨ra,rn,rc,rb,ran,rnn,rcn,rad,rnd,rcd,rfl⟩:=J22.spell;have HBe:=hid (show Below wr.heap.size wr X from HR.out.be);have HStep:=hid (HI1.out.step HBe.out J22.fp);obtain ⟨_,_,_,_,hbz⟩:=(HI1.out.below HBe.out).ex;obtain ⟨z0,z1,z2,z3,zf,zlt⟩:=hbz.bx;clear J22 hbz;go_wp2;go_roundw
         case rel=>exact ⟨k+1,hlk,by go_num,by rw [<- HS1.out];exact HStep.out⟩
         case measure=>simp [intOf];omega
       ·have hsk:sumF (bs.getD r 0) ws (r * n) l x (k+1)=sumF (bs.getD r 0) ws (r * n) l x k:=sumF_skip (by rw [hgd];exact h0);have HStep:Hid (AcF w5 wr w5.heap.size (sumF (bs.getD r 0) ws (r * n) l x (k+1))):=by unfold Hid;rw [hsk];exact HIr.out
        have q0:decide (0<=d)=false:=decide_eq_false h0;rw [hai];clear hd hgd hsk hai;go_wp2;go_roundw
        case rel=>exact ⟨k+1,hlk,by go_num,HStep.out⟩
        case measure=>simp [intOf];omega
      ·obtain rfl:k=n:=by omega
       obtain ⟨s,hs⟩:∃ s,s=convFO bs ws k win x r i:=⟨_,rfl⟩
       have hbx:AcF w5 wr w5.heap.size s:=by
        have h:=HIr.out;rw [hs,show convFO bs ws k win x r i=sumF (bs.getD r 0) ws (r * k) l x k by unfold convFO;rw [HGl.out,HLn.out]];exact h
       have HStep:Hid _:=flatF_succ (convFO bs ws k win x) T r i;rw [<- hs] at HStep;obtain ⟨sa,sn,sc,sb,san,snn,scn,sad,snd,scd,hbxs⟩:=hbx.spell;have HRow:=hid (One4.form hbxs.fm 53);obtain ⟨x0,x1,x2,x3,_,xlt⟩:=hbxs.bx;obtain ⟨HOw,HLf⟩:=hd2 ((HOc5.out.below hbx.bl).below ((Below.refl wr.heap.size wr).alloc (Nat.le_refl _) (.cells #[.slice sa sn sc,.bool sb,.slice san snn scn,.slice sad snd scd] 53))) ((flatF_len (convFO bs ws k win x) T r i).trans HM.out.symm);have HM1:Hid (m+1=r * T+(i+1)):=by have:=HM.out;unfold Hid;omega
       clear hbx hbxs hs
       go_wp2_with (at_builtin;refine wpList_app4 (T:=53) formK (.slice none 0 0) (.bool false) (.slice none 0 0) (.slice none 0 0) 80 (by intro u hu;simp at hu;rcases hu with rfl | rfl | rfl | rfl <;> rfl) rfl (.tmp 66) (.tmp 68) 28 rfl Wx.heap.size Tryz.underlying28 (by kernel_rfl) (by omega) (.slice b0 m k0) m _ HLf.out rfl HOw.out.out.own _ s HRow.out rfl (by omega) HOw.out.out.bl.size ?_;intro b3 k3 w3 hown hk3 hg hbe hnx;have HOut3:=hid (show OutCF Wx w3 (.slice b3 (m+1) k3) (flatF (convFO bs ws k win x) T r (i+1)) wq.heap.size u from by rw [HStep.out];exact HOw.out.app hown hg hbe hnx);clear hown hg hbe hnx)
       go_roundw
       case rel=>exact ⟨i+1,m+1,b3,k3,hi,HM1.out,rfl,by go_num,HOut3.out⟩
       case measure=>simp [intOf];omega
    ·obtain rfl:i=T:=by omega
     have HOn:Hid (OutF Wx wv (.slice b0 m k0) (flatF (convFO bs ws n win x) i (r+1) 0)):=by unfold Hid;rw [<- flatF_next];exact HOc.out.out
     have HM1:Hid (m=(r+1) * i):=by have:=HM.out;unfold Hid;rw [Nat.succ_mul];omega
     go_wp2;go_roundw
     case rel=>exact ⟨r+1,m,b0,k0,hlt,HM1.out,rfl,by go_num,HOn.out⟩
     case measure=>simp [intOf];omega
  ·obtain rfl:r=S.n2:=by omega
   go_wp2;have hNP:RowAf w (flatF (convFO bs ws n win x) T S.n2 0) (.returned (.slice b0 m k0)) wq:=by
    obtain ⟨a,c,e,ho,hb⟩:=HOut.out.ret ((flatF_len _ _ _ _).trans HM.out.symm);exact ⟨a,c,e,ho.mono HBx0.out.size,HBx0.out.trans (hb.mono HBx0.out.size)⟩
   exact bodyPost_ret (v:=.slice b0 m k0) (by simp [results,Tryz.results56,go_sem]) rfl hNP
end Go.Proofs.YtfgmmghmmfmdgaaGreat
