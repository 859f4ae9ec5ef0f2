/-
  Contracts of the functions that the statement reaches: RiC, RiD, RiE, RiF.
-/
import Derived.Test.YtfgmmghmmfmdgaaGreatX45
set_option linter.all false
set_option maxRecDepth 100000
set_option maxHeartbeats 3200000
namespace Go.Proofs.YtfgmmghmmfmdgaaGreat
open Go.RowKit
open Go.Lib (hid)
theorem evalT_snoc (x:List Rat) (u:Nat) (q:Rat):∀ l:List (Nat × Rat),evalT x (l++[(u,q)])=evalT x l+q * x.getD u 0
 | []=>by show q * x.getD u 0+0=0+_;rw [Rat.add_zero,Rat.zero_add]
 | (v,p)::r=>by
  show p * x.getD v 0+evalT x (r++[(u,q)])=(p * x.getD v 0+evalT x r)+_
  rw [evalT_snoc x u q r,Rat.add_assoc]
def parE (x:List Rat) (f:AffQ) (k:Nat):Rat:=f.c+evalT x (f.ts.take k)
theorem parE_zero (x:List Rat) (f:AffQ):parE x f 0=f.c:=by show f.c+0=_;rw [Rat.add_zero]
theorem parE_all (x:List Rat) (f:AffQ):parE x f f.ts.length=evalA x f:=by
 unfold parE evalA;rw [List.take_length,Rat.add_comm]
theorem parE_succ {x:List Rat} {f:AffQ} {k u:Nat} {q:Rat} (h:f.ts[k]? =some (u,q)):parE x f (k+1)=parE x f k+q * x.getD u 0:=by
 unfold parE;rw [take_snoc h,evalT_snoc,Rat.add_assoc]
theorem Bd.parE {D1 B1 D2 B2 N:Nat} {f:AffQ} {x:List Rat} (bf:BdF D1 B1 N f) (bx:BdL D2 B2 x) (h2:0 < D2):∀ k,Bd (D1 * D2) (B1+k * (B1 * B2)) (Go.Proofs.YtfgmmghmmfmdgaaGreat.parE x f k)
 | 0=>by rw [parE_zero,Nat.zero_mul,Nat.add_zero];exact bf.c.bump h2
 | k+1=>by
  cases hk:f.ts[k]? with
  | none=>
   have e:Go.Proofs.YtfgmmghmmfmdgaaGreat.parE x f (k+1)=Go.Proofs.YtfgmmghmmfmdgaaGreat.parE x f k:=by
    have hl:=List.getElem?_eq_none_iff.1 hk;unfold Go.Proofs.YtfgmmghmmfmdgaaGreat.parE;rw [List.take_of_length_le (by omega),List.take_of_length_le hl]
   rw [e];exact (Bd.parE bf bx h2 k).mono (by rw [Nat.succ_mul];omega)
  | some t=>
   obtain ⟨u,q⟩:=t;rw [parE_succ hk,Nat.succ_mul, <- Nat.add_assoc];exact (Bd.parE bf bx h2 k).add ((bf.mem (List.mem_of_getElem? hk)).mul (bx.at h2 u))
def PayE (D1 B1 D2 B2 N:Nat):Prop:=Pay (D1 * D2) (B1+N * (B1 * B2)+B1 * B2+B2)
theorem PayE.mono {D1 B1 D2 B2 N N':Nat} (h:PayE D1 B1 D2 B2 N) (hN:N'<=N):PayE D1 B1 D2 B2 N':=
 Pay.le h (Nat.le_refl _) (by have:=Nat.mul_le_mul_right (B1 * B2) hN;omega)
theorem PayE.p1 {D1 B1 D2 B2 N:Nat} (h:PayE D1 B1 D2 B2 N) (h2:0 < D2):Pay D1 B1:=Pay.le h (Nat.le_mul_of_pos_right _ h2) (by omega)
theorem PayE.p2 {D1 B1 D2 B2 N:Nat} (h:PayE D1 B1 D2 B2 N) (h1:0 < D1):Pay D2 B2:=Pay.le h (Nat.le_mul_of_pos_left _ h1) (by omega)
theorem r7Eval {w:World} {v:Value} {f:AffQ} {ax:Option Addr} {x:List Rat} {nx D1 B1 D2 B2:Nat} (cx:Nat) (hf:FormV w v f) (hX:RatsAt w ax (x.map ratL)) (hnx:x.length=nx) (bf:BdF D1 B1 x.length f) (bx:BdL D2 B2 x) (h2:0 < D2) (hP:PayE D1 B1 D2 B2 x.length):
  Calls Tryz.prog 70 #[v,.slice ax nx cx] w (RetRE w (ratL (evalA x f)) 0):=by
 obtain ⟨a,c,an,ad,cn,cd,rfl,hc,ht,l1,l2,u1,u2⟩:=hf.parts;have q1:=ht.len;have q2:=hX.len;rw [List.length_map,hnx] at q2;have h1:=bf.pos;obtain ⟨HX,HT,HNx,HCan,HTop,HLp⟩:=hd6 hX ht hnx (show CanF f.ts 0 from bf.can) (show ∀ (t:Nat × Rat),t ∈ f.ts->t.1 < nx from fun t ht=>by rw [<- hnx];exact Nat.lt_of_lt_of_le (top_mem ht) bf.top) (fun (t:Nat × Rat) (ht:t ∈ f.ts)=>(hP.p1 h2).bd (bf.mem ht));have HLx:=hid (fun (k:Nat)=>(hP.p2 h1).bd (bx.at h2 k));have hfew:=bf.few;obtain ⟨HPa,HPr⟩:=hd2 (fun (k:Nat) (hk:k<=f.ts.length)=>Pay.b5 (D:=D1 * D2) (B:=B1+x.length * (B1 * B2)+B1 * B2+B2) hP ((Bd.parE bf bx h2 k).mono (by have:=Nat.mul_le_mul_right (B1 * B2) (Nat.le_trans hk hfew);omega))) (fun (t:Nat × Rat) (ht:t ∈ f.ts) (k:Nat)=>Pay.b5 (D:=D1 * D2) (B:=B1+x.length * (B1 * B2)+B1 * B2+B2) hP (((bf.mem ht).mul (bx.at h2 k)).mono (by omega)));obtain ⟨RR,hRR⟩:∃ RR,RR=evalA x f:=⟨_,rfl⟩
 have HRR:=hid hRR;rw [<- hRR];have HRc:=hid (show RatV w (.agg #[.bool (ratL f.c).neg,.slice an (ratL f.c).num.length cn,.slice ad (ratL f.c).den.length cd]) (ratL f.c) from ⟨an,ad,cn,cd,rfl,l1,l2,u1,u2⟩)
 -- the boxes
 have x1:=Box4.alloc w (.slice a f.ts.length c) (.bool (ratL f.c).neg) (.slice an (ratL f.c).num.length cn) (.slice ad (ratL f.c).den.length cd) 53;have b1:=blA w (.cells #[.slice a f.ts.length c,.bool (ratL f.c).neg,.slice an (ratL f.c).num.length cn,.slice ad (ratL f.c).den.length cd] 53);have s1:(w.alloc (.cells #[.slice a f.ts.length c,.bool (ratL f.c).neg,.slice an (ratL f.c).num.length cn,.slice ad (ratL f.c).den.length cd] 53)).heap.size=w.heap.size+1:=by simp
 obtain ⟨W1,hW1⟩:∃ W1,W1=w.alloc (.cells #[.slice a f.ts.length c,.bool (ratL f.c).neg,.slice an (ratL f.c).num.length cn,.slice ad (ratL f.c).den.length cd] 53):=⟨_,rfl⟩
 rw [<- hW1] at x1 b1 s1;have n2:=RNil.alloc W1 51;have b2:=blA W1 (zerO 51);have s2:(W1.alloc (zerO 51)).heap.size=w.heap.size+2:=by simp [s1]
 rw [s1] at n2;obtain ⟨W2,hW2⟩:∃ W2,W2=W1.alloc (zerO 51):=⟨_,rfl⟩
 rw [<- hW2] at n2 b2 s2;have hb12:=b1.trans (b2.mono b1.size);have a3:=RBox.alloc (W:=W2) l1 l2 (u1.below hb12) (u2.below hb12) 51;have b3:=blA W2 (.cells #[.bool (ratL f.c).neg,.slice an (ratL f.c).num.length cn,.slice ad (ratL f.c).den.length cd] 51);have s3:(W2.alloc (.cells #[.bool (ratL f.c).neg,.slice an (ratL f.c).num.length cn,.slice ad (ratL f.c).den.length cd] 51)).heap.size=w.heap.size+3:=by simp [s2]
 rw [s2] at a3;obtain ⟨W3,hW3⟩:∃ W3,W3=W2.alloc (.cells #[.bool (ratL f.c).neg,.slice an (ratL f.c).num.length cn,.slice ad (ratL f.c).den.length cd] 51):=⟨_,rfl⟩
 rw [<- hW3] at a3 b3 s3;have hb13:=hb12.trans (b3.mono hb12.size);obtain ⟨HF4,HA0,HN0,HB12,S2,HW1⟩:=hd6 (x1.below b2) (show AcI W2 W3 W2.heap.size (ratL (parE x f 0)) from by rw [parE_zero];exact ⟨by rw [s2];exact a3,b3,Nat.le_refl _⟩) n2 hb12 s2 hW1;obtain ⟨HW2,HW3⟩:=hd2 hW2 hW3;clear x1 b1 s1 n2 b2 s2 hb12 a3 b3 s3 hb13 hW1 hW2 hW3 ht l1 l2 u1 u2 hf bf bx hP hRR hX hnx hfew
 go_enter Tryz.func70,Tryz.ntmps70
 go_upto_region 2 with fail
 rw [<- HW1.out, <- HW2.out, <- HW3.out];obtain ⟨b6,hb6⟩:∃ b6,b6=w.heap.size+1+1:=⟨_,rfl⟩
 rw [<- hb6];have e6:W2.heap.size=b6:=by rw [hb6];exact S2.out
 rw [e6] at HA0;have H6:=hid e6;have h6a:w.heap.size+1 < b6:=by omega
 have h6b:w.heap.size < b6:=by omega
 generalize hn:f.ts.length=n at *;have HNn:=hid hn;clear hb6 e6 hn HW1 HW2 HW3;go_wp2
 go_loopw [7] (fun i wr=>∃ j:Nat,j<=n/\i=.int .i64 (j:Int)/\Hid (AcI W2 wr b6 (ratL (parE x f j)))) (fun i _=>n - (intOf i).toNat)
 case atStart=>exact ⟨0,Nat.zero_le _,rfl,HA0.out⟩
 case round=>
  obtain ⟨j,hj,rfl,HA⟩:=hrel;have HB:=hid HA.out.bl;have HBw:=htr HB12 HB.out;have hF4:=HF4.out.below HB.out;obtain ⟨x0,x1,x2,x3,xf,xlt⟩:=hF4
  by_cases hlt:j < n
  ·obtain ⟨b1,o1,⟨u,p⟩,p0,p1,p2,p3,rfl,hb1,hx,e0,e1,e2,e3,rfl,hrc⟩:=(HT.out.below termK HBw.out).pick (k:=j) (by rw [HNn.out];exact hlt);simp only at e0 hrc;have hm:=List.mem_of_getElem? hx;have htp:=HTop.out _ hm;simp only at htp;have HM:=hid hm;have HV1:=hrc.val;obtain ⟨an',ad',cn',cd',rfl,rfl,rfl,_⟩:=hrc.ex;obtain ⟨bx,ox,y,yn,yd,ycn,ycd,hax,hbx,hyy,yc0,yc1,yc2,hyv⟩:=(HX.out.below HBw.out).pick (k:=u) (by rw [List.length_map,HNx.out];exact htp);obtain ⟨hy1,hy2⟩:=map_get hyy;subst hax;have hal:=blA wr (.cells #[.int .i64 (u:Int),.bool (ratL p).neg,.slice an' (ratL p).num.length cn',.slice ad' (ratL p).den.length cd'] 84);have hb4:=Box4.alloc wr (.int .i64 (u:Int)) (.bool (ratL p).neg) (.slice an' (ratL p).num.length cn') (.slice ad' (ratL p).den.length cd') 84;obtain ⟨HB4,HV2,HYv,HAl,HA2⟩:=hd5 hb4 (HV1.below hal) (hyv.below hal) hal (HA.out.below hal);have yc0:=(hal.cell hbx).trans yc0;have yc1:=(hal.cell hbx).trans yc1;have yc2:=(hal.cell hbx).trans yc2;have hbx:=Nat.lt_of_lt_of_le hbx hal.size;obtain ⟨xu,hxu⟩:∃ xu,xu=x.getD u 0:=⟨_,rfl⟩
   obtain ⟨S,hS⟩:∃ S,S=parE x f j:=⟨_,rfl⟩
   obtain ⟨T,hT⟩:∃ T,T=S+p * xu:=⟨_,rfl⟩
   have HT2:Hid (T=parE x f (j+1)):=by unfold Hid;rw [hT,hS,hxu];exact (parE_succ hx).symm
   rw [<- hxu] at hy2;rw [<- hS] at HA2;have hls:=HPa.out j (by omega);have hlp:=HLp.out _ hm;have hlx:=HLx.out u;have hlq:=HPr.out _ hm u;simp only at hlp hlq;rw [<- hS] at hls;rw [<- hxu] at hlx hlq;obtain ⟨HLs,HLp1,HLx1,HLq,HY2,HTe⟩:=hd6 hls hlp hlx hlq hy2 hT;obtain ⟨⟨sn,sd,scn,scd,hsb,hs2,hs3,hs4,hs5⟩,hsn⟩:=HA2.out.box;have HSv:=hid (show RatV _ (.agg #[.bool (ratL S).neg,.slice sn (ratL S).num.length scn,.slice sd (ratL S).den.length scd]) (ratL S) from ⟨sn,sd,scn,scd,rfl,hs2,hs3,hs4,hs5⟩);have d1:decide ((u:Int) < 0)=false:=decide_eq_false (by omega);have d2:decide ((nx:Int)<=(u:Int))=false:=decide_eq_false (by omega);have d2n:decide (nx<=u)=false:=decide_eq_false (by omega);have huI:(0:Int)<=(u:Int):=by omega
   have huI2:(u:Int) < (nx:Int):=by omega
   obtain ⟨s0,s1,s2,sf,slt⟩:=hsb;clear hx hm HV1 hrc hyy hy1 hyv hy2 hxu hS hT hls hlp hlx hlq hs2 hs3 hs4 hs5 hsn hb4 hal
   go_upto_region 6 with fail
   generalize wr.alloc (.cells #[.int .i64 (u:Int),.bool (ratL p).neg,.slice an' (ratL p).num.length cn',.slice ad' (ratL p).den.length cd'] 84)=wj at *;obtain ⟨t0,t1,t2,t3,tf,tlt⟩:=HB4.out;obtain ⟨bt,hbt⟩:∃ bt,bt=wr.heap.size:=⟨_,rfl⟩
   rw [<- hbt] at t0 t1 t2 t3 tlt ⊢;have Hbt:=hid hbt;clear hbt;have HCe:Hid (∀ X,Below wj.heap.size wj X->X.cell? ⟨b6,0,none⟩=some (.bool (ratL S).neg)/\X.cell? ⟨b6,1,none⟩=some (.slice sn (ratL S).num.length scn)/\X.cell? ⟨b6,2,none⟩=some (.slice sd (ratL S).den.length scd)/\b6 < X.heap.size/\
     X.cell? ⟨bt,0,none⟩=some (.int .i64 (u:Int))/\X.cell? ⟨bt,1,none⟩=some (.bool (ratL p).neg)/\X.cell? ⟨bt,2,none⟩=some (.slice an' (ratL p).num.length cn')/\X.cell? ⟨bt,3,none⟩=some (.slice ad' (ratL p).den.length cd')/\bt < X.heap.size/\
     X.cell? ⟨bx,ox+u * 3,none⟩=some (.bool y.neg)/\X.cell? ⟨bx,ox+u * 3+1,none⟩=some (.slice yn y.num.length ycn)/\X.cell? ⟨bx,ox+u * 3+2,none⟩=some (.slice yd y.den.length ycd)/\bx < X.heap.size):=fun X hb=>
    ⟨(hb.cell slt).trans s0,(hb.cell slt).trans s1,(hb.cell slt).trans s2,Nat.lt_of_lt_of_le slt hb.size,(hb.cell tlt).trans t0,(hb.cell tlt).trans t1,(hb.cell tlt).trans t2,(hb.cell tlt).trans t3,Nat.lt_of_lt_of_le tlt hb.size,(hb.cell hbx).trans yc0,(hb.cell hbx).trans yc1,(hb.cell hbx).trans yc2,Nat.lt_of_lt_of_le hbx hb.size⟩
   have HMu:Hid (∀ X,Below wj.heap.size wj X->Calls Tryz.prog 80 #[.agg #[.bool (ratL p).neg,.slice an' (ratL p).num.length cn',.slice ad' (ratL p).den.length cd'],.agg #[.bool y.neg,.slice yn y.num.length ycn,.slice yd y.den.length ycd]] X (RetR X (ratL (p * xu)))):=fun X hb=>by
    have h:=r3Mul (HV2.out.below hb) (HYv.out.below hb) HLp1.out (by rw [HY2.out];exact HLx1.out);rw [ratOf_ratL,HY2.out,ratOf_ratL, <- HY2.out] at h;exact h
   have HAd:Hid (∀ X,Below wj.heap.size wj X->∀ v2,RatV X v2 (ratL (p * xu))->Calls Tryz.prog 78 #[.agg #[.bool (ratL S).neg,.slice sn (ratL S).num.length scn,.slice sd (ratL S).den.length scd],v2] X (RetR X (ratL T))):=fun X hb v2 hv2=>by
    have h:=r3Add (HSv.out.below hb) hv2 (HLs.out.mono (by omega)) (HLq.out.mono (by omega));rw [ratOf_ratL,ratOf_ratL, <- HTe.out] at h;exact h
   go_upto_region 8 with fail
   clear t0 t1 t2 t3 tf tlt s0 s1 s2 sf slt yc0 yc1 yc2 hbx x0 x1 x2 x3 xf xlt e0 e1 e2 e3 hb1
   refine wp_region_slots_tail_g 10 (by kernel_rfl) (by kernel_rfl) (by kernel_rfl) (by kernel_rfl) (by decide) (From wj.heap.size wj) (fun w w'=>Below w.heap.size w w') (GP [SP.val (.agg #[.bool (ratL S).neg,.slice sn (ratL S).num.length scn,.slice sd (ratL S).den.length scd]),SP.val (.pointer (some ⟨bt,1,none⟩)),SP.val (.agg #[.bool (ratL p).neg,.slice an' (ratL p).num.length cn',.slice ad' (ratL p).den.length cd']),SP.val (.slice (some ⟨bx,ox,none⟩) nx cx),SP.val (.pointer (some ⟨bt,0,none⟩)),SP.val (.int .i64 (u:Int)),SP.val (.pointer (some ⟨bx,ox+u * 3,none⟩)),SP.val (.agg #[.bool y.neg,.slice yn y.num.length ycn,.slice yd y.den.length ycd]),SP.rat (ratL (p * xu)),SP.rat (ratL T)]) (fun i v w w' h hb=>GP_below h hb) (From.start (Nat.le_refl _)) ?_ ?_
   ·intro ops hops;have HOps:=hid hops;clear hops;simp only [List.take_succ_cons,List.take_zero,Shows]
    refine ⟨?v0,?v1,?v2,?v3,?v4,?v5,?v6,?v7,?_,?_,trivial⟩
    all_goals (intro y' X hR hL;have hB:=hR.base;obtain ⟨s0,s1,s2,slt,t0,t1,t2,t3,tlt,y0,y1,y2,ylt⟩:=HCe.out X hR.be;simp only [Laid,Region.binds,forall_const,Bool.false_eq_true,false_implies,GP,SP.val,SP.frm,SP.rat,SP.tru,List.getElem?_cons_zero,List.getElem?_cons_succ] at hL;simp [fillFrom,Act.put])
    case v0|v1|v2|v3|v4|v5|v6|v7=>
     try simp only [hL]
     clear hL;have HR:=hid hR;clear hR;go_wp2
     first | refine ⟨_,rfl,?_⟩ | skip
     exact ⟨HR.out,Below.refl _ _,rfl⟩
    ·try simp only [hL]
     clear hL;have HR:=hid hR;clear hR;have HCt:=hid (HMu.out X HR.out.be)
     go_wp2_with fail
     refine HCt.out.mono ?_
     rintro e w1 ⟨v1,rfl,kv,kb⟩;obtain ⟨KV,KB⟩:=hd2 kv kb;clear kv kb HCt;go_wp2
     first | refine ⟨_,rfl,?_⟩ | skip
     exact ⟨⟨Nat.le_trans HR.out.base KB.out.size,HR.out.be.trans (KB.out.mono HR.out.base)⟩,KB.out,KV.out⟩
    ·generalize y' 0=y0 at hL ⊢;generalize y' 8=y8 at hL ⊢;obtain ⟨rfl,H8,_,_⟩:=hL;obtain ⟨K8,HR⟩:=hd2 H8 hR;clear hR H8;have HCt:=hid (HAd.out X HR.out.be _ K8.out)
     go_wp2_with fail
     refine HCt.out.mono ?_
     rintro e w1 ⟨v1,rfl,kv,kb⟩;obtain ⟨KV,KB⟩:=hd2 kv kb;clear kv kb HCt;go_wp2
     first | refine ⟨_,rfl,?_⟩ | skip
     exact ⟨⟨Nat.le_trans HR.out.base KB.out.size,HR.out.be.trans (KB.out.mono HR.out.base)⟩,KB.out,KV.out⟩
   ·intro ops y' X hR hL;have hB:=hR.base;have J9:=hL.2;simp only [GP,SP.val,SP.frm,SP.rat,SP.tru,List.getElem?_cons_zero,List.getElem?_cons_succ] at J9;obtain ⟨s0,s1,s2,slt,t0,t1,t2,t3,tlt,y0,y1,y2,ylt⟩:=HCe.out X hR.be;clear hL;simp only [List.take_succ_cons,List.take_zero,List.drop_succ_cons,List.drop_zero];simp [fillFrom,Act.put];generalize y' 9=y9 at J9 ⊢;have HR:=hid hR;clear hR;obtain ⟨rn,rd,rcn,rcd,rfl,r2,r3,r4,r5⟩:=J9.ex;have HSt:=hid (HA2.out.step (show Below wj.heap.size wj X from HR.out.be) r2 r3 r4 r5);rw [HT2.out] at HSt;have HT3:=hid HT2.out;clear J9 r2 r3 r4 r5 t0 t1 t2 t3 tlt y0 y1 y2 ylt;obtain ⟨⟨_,_,_,_,hbz,_⟩,_⟩:=(HA2.out.below (show Below wj.heap.size wj X from HR.out.be)).box;have zf:=hbz.free;clear hbz;go_wp2;rw [HT3.out];go_roundw
    case rel=>exact ⟨j+1,hlt,by go_num,HSt.out⟩
    case measure=>simp [intOf];omega
  ·obtain rfl:j=n:=by omega
   have hN:=HN0.out.below HB.out;have hAc:=HA.out;rw [<- HNn.out,parE_all, <- HRR.out] at hAc;obtain ⟨⟨sn,sd,scn,scd,hsb,hs2,hs3,hs4,hs5⟩,hsn⟩:=hAc.box;obtain ⟨s0,s1,s2,sf,slt⟩:=hsb;obtain ⟨r0,r1,r2,rf,rlt⟩:=hN.c;have HNc:=hid hN.nc;have hlt1:w.heap.size<=w.heap.size+1:=by omega
   have H2:=hid (And.intro hs2 (And.intro hs3 (And.intro hs4 hs5)));clear hAc hs2 hs3 hs4 hs5 hsn hN;go_wp2;exact bodyPost_ret (v:=.tuple #[.agg #[.bool (ratL RR).neg,.slice sn (ratL RR).num.length scn,.slice sd (ratL RR).den.length scd],.int .i64 0]) (by simp [results,Tryz.results70,go_sem,r0,r1,r2]) rfl ⟨_,rfl,RatV.store HNc.out H2.out.1 H2.out.2.1 H2.out.2.2.1 H2.out.2.2.2,below_store3 HBw.out hlt1 _ _ _⟩
theorem evalU_take_le {x:List Rat} {U:List AffQ} (j:Nat):∀ q ∈ evalU x (U.take j),q ∈ evalU x U:=by
 intro q hq;have h:evalU x U=evalU (evalU x (U.take j)) (U.drop j):=by rw [<- evalU_app,List.take_append_drop]
 obtain ⟨z,hz⟩:=evalU_ext (U.drop j) (evalU x (U.take j));rw [h,hz];exact List.mem_append_left _ hq
theorem OutI.rats {w wr:World} {a:Option Addr} {n c:Nat} {L:List RatL} (h:OutI w wr (.slice a n c) L) (hl:L.length<=9223372036854775807):RatsAt wr a L:=h.own.rats hl
theorem r15Values {w:World} {G:GraphQ} {D1 B1 D2 B2 nx:Nat} {aU aO ax:Option Addr} {cU cO:Nat} {x:List Rat} (cx:Nat) (hU:FormsAt w aU G.units) (hO:FormsAt w aO G.outs) (hX:RatsAt w ax (x.map ratL)) (hnx:x.length=nx) (hni:G.inputs=nx) (hG:GrOK G D1 B1)
  (bx:BdL D2 B2 (evalU x G.units)) (h2:0 < D2) (hP:PayE D1 B1 D2 B2 2048):
  Calls Tryz.prog 69 #[.agg #[.int .i64 (nx:Int),.slice aU G.units.length cU,.slice aO G.outs.length cO],.slice ax nx cx] w (RunPost w ((evalU x G.units).map ratL,0)):=by
 have q1:=hG.i1;have q2:=hG.i2;have q3:=hG.u;have hD1:0 < D1:=by
  have h:=hG.o1;exact (hG.bo _ (List.getElem_mem (show 0 < G.outs.length by omega))).pos
 have hP1:=hP.p1 h2;have hal:=blA w (.cells #[.int .i64 (nx:Int),.slice aU G.units.length cU,.slice aO G.outs.length cO] 30);have hx:=Box3.alloc w (.int .i64 (nx:Int)) (.slice aU G.units.length cU) (.slice aO G.outs.length cO) 30;have hVd:=r15Valid (cU:=cU) (cO:=cO) (hU.below formK hal) (hO.below formK hal) hG hP1;rw [hni] at hVd q1 q2;obtain ⟨HVd,HUs,HXs,HAl,HBu,HBx⟩:=hd6 hVd hU hX hal hG.bu bx;obtain ⟨HP,HX,HNx,HNi,HD1,HLx⟩:=hd6 hP hx hnx hni hD1 (show ∀ q ∈ evalU x G.units,RatLe (ratL q) 524285 from fun q hq=>(Pay.b5 (hP.p2 hD1) (bx q hq)));clear hal hx hU hO hX hG hP hVd hnx hni bx hP1;obtain ⟨RR,hRR⟩:∃ RR,RR=evalU x G.units:=⟨_,rfl⟩
 have HRR:=hid hRR;rw [<- hRR];clear hRR
 go_enter Tryz.func69,Tryz.ntmps69
 go_upto_region 1 with fail
 generalize w.alloc (.cells #[.int .i64 (nx:Int),.slice aU G.units.length cU,.slice aO G.outs.length cO] 30)=W at *;generalize hn:G.units.length=n at *;generalize hno:G.outs.length=no at *;have HNn:=hid hn;clear hn hno;obtain ⟨x0,x1,x2,xf,xlt⟩:=HX.out
 go_wp2_with fail
 refine HVd.out.mono ?_
 rintro e w1 ⟨rfl,hb1⟩;have HB1:=htr HAl hb1;have HX1:=hid (HX.out.below hb1);have d1:((nx:Int) != (nx:Int))=false:=by simp
 have d2:decide (¬ (nx:Int)=(nx:Int))=false:=by simp
 clear hb1 HVd x0 x1 x2 xf xlt;obtain ⟨x0,x1,x2,xf,xlt⟩:=HX1.out;go_wp2;clear x0 x1 x2 xf xlt d1 d2
 go_loopw [6,7] (fun v i wr=>∃ (k:Nat) (a:Option Addr) (c:Nat),k<=nx/\v=.slice a k c/\i=.int .i64 (k:Int)/\Hid (OutI w1 wr (.slice a k c) ((x.take k).map ratL))) (fun _ i _=>nx - (intOf i).toNat)
 case atStart=>exact ⟨0,none,0,Nat.zero_le _,rfl,rfl,OutI.start w1⟩
 case round=>
  obtain ⟨k,a0,c0,hk,rfl,rfl,HOut⟩:=hrel;have HBr:=htr HB1 HOut.out.bl
  by_cases hlt:k < nx
  ·obtain ⟨bx,ox,y,yn,yd,ycn,ycd,hax,hbx,hyy,yc0,yc1,yc2,hyv⟩:=(HXs.out.below HBr.out).pick (k:=k) (by rw [List.length_map,HNx.out];exact hlt);obtain ⟨hy1,hy2⟩:=map_get hyy;have hkx:k < x.length:=by rw [HNx.out];exact hlt
   have hmex:x.getD k 0 ∈ evalU x G.units:=by
    obtain ⟨z,hz⟩:=evalU_ext G.units x;rw [hz,List.getD_eq_getElem?_getD,List.getElem?_eq_getElem hkx];exact List.mem_append_left _ (List.getElem_mem _)
   have hly:=HLx.out _ hmex;rw [<- hy2] at hly;have hC:=r3Canon hyv (hly.mono (by omega));rw [hy2,canonL_ratL,ratOf_ratL, <- hy2] at hC;have HC:=hid hC;have hvl:((x.take k).map ratL).length=k:=by rw [List.length_map,List.length_take];omega
   have HVl:=hid hvl;have HSuc:Hid ((x.take k).map ratL++[y]=(x.take (k+1)).map ratL):=by
    unfold Hid;rw [List.take_add_one,List.getElem?_eq_getElem hkx,List.map_append,hy2,List.getD_eq_getElem?_getD,List.getElem?_eq_getElem hkx];rfl
   subst hax;clear hyy hy1 hmex hly hC hvl hyv hy2 hkx
   go_wp2_with fail
   refine HC.out.mono ?_
   rintro e w2 ⟨v2,rfl,hv2,hb2⟩;obtain ⟨bn',bd',dn',dd',rfl,g2,g3,g4,g5⟩:=hv2.ex;have HRow:=hid (Row1.alloc g2 g3 g4 g5 51);have hal1:=blA w2 (ratO y bn' dn' bd' dd' 51);have HO2:=hid ((HOut.out.below hb2).below hal1);clear hv2 hb2 g4 g5 hal1 HC
   go_wp2_with (at_builtin;refine wpList_appR2 rfl (.tmp 27) (.tmp 33) 35 rfl w1.heap.size Tryz.underlying35 Tryz.infoRat (.slice a0 k c0) k _ HVl.out rfl HO2.out.own _ y HRow.out rfl (by omega) HO2.out.bl.size ?_;intro b3 k3 w3 hown hk3 hg hbe hnx;have HPost:=hid (show OutI w1 w3 (.slice b3 (k+1) k3) ((x.take k).map ratL++[y]) from ⟨hown,HO2.out.bl.trans hbe⟩);clear hown hg hbe hnx)
   rw [HSuc.out] at HPost;go_roundw
   case rel=>exact ⟨k+1,b3,k3,hlt,rfl,by go_num,HPost.out⟩
   case measure=>simp [intOf];omega
  ·obtain rfl:k=nx:=by omega
   have hO:=HOut.out;rw [List.take_of_length_le (by rw [HNx.out];exact Nat.le_refl _)] at hO;obtain ⟨HO,HXr⟩:=hd2 (show OutI w1 wr (.slice a0 k c0) ((evalU x (G.units.take 0)).map ratL) from hO) (HX1.out.below HOut.out.bl);clear hO HOut hlt hk;obtain ⟨wo,rfl⟩:∃ wo:World,wo=wr:=⟨_,rfl⟩
   go_wp2
   go_loopw [6,8] (fun v i wr=>∃ (j:Nat) (a:Option Addr) (c:Nat),j<=n/\v=.slice a (k+j) c/\i=.int .i64 (j:Int)/\Hid (OutI w1 wr (.slice a (k+j) c) ((evalU x (G.units.take j)).map ratL))) (fun _ i _=>n - (intOf i).toNat)
   case atStart=>exact ⟨0,a0,c0,Nat.zero_le _,by simp,rfl,HO.out⟩
   case round=>
    obtain ⟨j,a1,c1,hj,rfl,rfl,HOut⟩:=hrel;have HBr:=htr HB1 HOut.out.bl;obtain ⟨x0,x1,x2,xf,xlt⟩:=HX1.out.below HOut.out.bl;have hul:(evalU x (G.units.take j)).length=k+j:=by
     rw [evalU_len,HNx.out,List.length_take,HNn.out];omega
    by_cases hlt:j < n
    ·obtain ⟨bf,of,f,p0,p1,p2,p3,hbe,hbf,hfx,e0,e1,e2,e3,hfv⟩:=(HUs.out.below formK HBr.out).pick (k:=j) (by rw [HNn.out];exact hlt);obtain ⟨xa,xn,xc,xb,xan,xnn,xcn,xad,xnd,xcd,rfl,rfl,rfl,rfl⟩:=hfv.spell;have hbd:=HBu.out j f hfx;rw [HNi.out, <- hul] at hbd;have hXr:=HOut.out.rats (by rw [List.length_map,hul];omega);have hbV:BdL D2 B2 (evalU x (G.units.take j)):=fun q hq=>HBx.out q (evalU_take_le j q hq)
     have HE:=hid (r7Eval c1 hfv.val hXr hul hbd hbV h2 (HP.out.mono (by rw [hul];omega)));obtain ⟨P,hPq⟩:∃ P,P=evalA (evalU x (G.units.take j)) f:=⟨_,rfl⟩
     rw [<- hPq] at HE;have hnew:evalU x (G.units.take (j+1))=evalU x (G.units.take j)++[maxQ P 0]:=by rw [take_snoc hfx,evalU_snoc,hPq]
     have hlP:RatLe (ratL P) 524285:=by
      rw [hPq, <- parE_all];exact Pay.b5 (D:=D1 * D2) (B:=B1+2048 * (B1 * B2)+B1 * B2+B2) HP.out ((Bd.parE hbd hbV h2 _).mono (by
       have h3:=hbd.few;rw [hul] at h3;have:=Nat.mul_le_mul_right (B1 * B2) (show f.ts.length<=2048 by omega);omega))
     obtain ⟨HLP,HNew⟩:=hd2 hlP hnew;have HVl:Hid (((evalU x (G.units.take j)).map ratL).length=k+j):=by unfold Hid;rw [List.length_map,hul]
     have HUl:=hid hul;subst hbe;clear hfx hfv hbd hXr hbV hPq hnew hlP hul
     go_wp2_with fail
     refine HE.out.mono ?_
     rintro e w2 ⟨v2,rfl,hv2,hb2⟩;obtain ⟨bn',bd',dn',dd',rfl,g2,g3,g4,g5⟩:=hv2.ex;have hal1:=blA w2 (.cells #[.bool (ratL P).neg,.slice bn' (ratL P).num.length dn',.slice bd' (ratL P).den.length dd'] 51);obtain ⟨HYb,HO2⟩:=hd2 (Box3.alloc w2 (.bool (ratL P).neg) (.slice bn' (ratL P).num.length dn') (.slice bd' (ratL P).den.length dd') 51) ((HOut.out.below hb2).below hal1);have hz:RatV (w2.alloc (.cells #[.bool (ratL P).neg,.slice bn' (ratL P).num.length dn',.slice bd' (ratL P).den.length dd'] 51)) (.agg #[.bool false,.slice none 0 0,.slice none 0 0]) (ratL 0):=by
      rw [ratL_zeroE];exact ⟨none,none,0,0,rfl,Nat.le_refl _,Nat.le_refl _,U32s.nil _ _,U32s.nil _ _⟩
     have hM:=r3Max (hv2.below hal1) hz (HLP.out.mono (by omega)) ratLe_zero;rw [ratOf_ratL,ratOf_ratL] at hM;have HM:=hid hM;obtain ⟨Q,hQ⟩:∃ Q,Q=ratL (maxQ P 0):=⟨_,rfl⟩
     rw [<- hQ] at HM;have HQ:=hid hQ;clear hv2 hb2 g4 g5 hal1 HE hz hM hQ e0 e1 e2 e3 hbf x0 x1 x2 xf xlt
     go_upto_region 12 with fail
     generalize w2.alloc (.cells #[.bool (ratL P).neg,.slice bn' (ratL P).num.length dn',.slice bd' (ratL P).den.length dd'] 51)=w3 at *;obtain ⟨y0,y1,y2,yf,ylt⟩:=HYb.out
     go_wp2_with fail
     refine HM.out.mono ?_
     rintro e w4 ⟨v4,rfl,hv4,hb4⟩;obtain ⟨bn4,bd4,dn4,dd4,rfl,g2,g3,g4,g5⟩:=hv4.ex;have HRow:=hid (Row1.alloc g2 g3 g4 g5 51);have hal4:=blA w4 (ratO Q bn4 dn4 bd4 dd4 51);have HO4:=hid ((HO2.out.below hb4).below hal4);clear hv4 hb4 g4 g5 hal4 HM y0 y1 y2 yf ylt
     go_wp2_with (at_builtin;refine wpList_appR2 rfl (.tmp 52) (.tmp 56) 35 rfl w1.heap.size Tryz.underlying35 Tryz.infoRat (.slice a1 (k+j) c1) (k+j) _ HVl.out rfl HO4.out.own _ Q HRow.out rfl (by omega) HO4.out.bl.size ?_;intro b3 k3 w5 hown hk3 hg hbe hnx;have HPost:=hid (show OutI w1 w5 (.slice b3 (k+j+1) k3) ((evalU x (G.units.take j)).map ratL++[Q]) from ⟨hown,HO4.out.bl.trans hbe⟩);clear hown hg hbe hnx)
     have HPost2:Hid (OutI w1 w5 (.slice b3 (k+(j+1)) k3) ((evalU x (G.units.take (j+1))).map ratL)):=by
      unfold Hid;rw [HNew.out,List.map_append,List.map_cons,List.map_nil, <- HQ.out];exact HPost.out
     go_roundw
     case rel=>exact ⟨j+1,b3,k3,hlt,by rw [Nat.add_assoc],by go_num,HPost2.out⟩
     case measure=>simp [intOf];omega
    ·obtain rfl:j=n:=by omega
     have hNP:RunPost w (RR.map ratL,0) (.returned (.tuple #[.slice a1 (k+j) c1,.int .i64 0])) wr:=by
      have h:=HOut.out;rw [List.take_of_length_le (by rw [HNn.out];exact Nat.le_refl _), <- HRR.out] at h;have hl:(RR.map ratL).length=k+j:=by
       rw [List.take_of_length_le (by rw [HNn.out];exact Nat.le_refl _), <- HRR.out] at hul;rw [List.length_map,hul]
      obtain ⟨a,c,e,h1,h2,h3⟩:=h.ret hl (by omega) HB1.out;injection e with e
      injection e with ea _ ec
      subst ea ec;exact ⟨a1,c1,by rw [hl],h1,h2,h3⟩
     have HNP:=hid hNP;clear hNP hul;go_wp2;exact bodyPost_ret (v:=.tuple #[.slice a1 (k+j) c1,.int .i64 0]) (by simp [results,Tryz.results69,go_sem]) rfl HNP.out
theorem r15forms {w:World} {G:GraphQ} {D1 B1 D2 B2 nx nl:Nat} {aU aO ax al:Option Addr} {cU cO:Nat} {x:List Rat} {L:List AffQ} (cl cx:Nat) (hU:FormsAt w aU G.units) (hO:FormsAt w aO G.outs) (hX:RatsAt w ax (x.map ratL)) (hnx:x.length=nx) (hni:G.inputs=nx) (hG:GrOK G D1 B1)
  (bx:BdL D2 B2 (evalU x G.units)) (h2:0 < D2) (hP:PayE D1 B1 D2 B2 2048) (hL:FormsAt w al L) (hnl:L.length=nl) (hnl2:nl<=1024) (bL:BdFs D1 B1 (G.inputs+G.units.length) L):
  Calls Tryz.prog 40 #[.agg #[.int .i64 (nx:Int),.slice aU G.units.length cU,.slice aO G.outs.length cO],.slice al nl cl,.slice ax nx cx] w (RunPost w ((L.map (evalA (evalU x G.units))).map ratL,0)):=by
 have q3:=hG.u;have q2:=hG.i2;have hal:=blA w (.cells #[.int .i64 (nx:Int),.slice aU G.units.length cU,.slice aO G.outs.length cO] 30);have hx:=Box3.alloc w (.int .i64 (nx:Int)) (.slice aU G.units.length cU) (.slice aO G.outs.length cO) 30;obtain ⟨HVa,HLs,HNl,HAl,HX,HP⟩:=hd6 (r15Values (cU:=cU) (cO:=cO) cx (hU.below formK hal) (hO.below formK hal) (hX.below hal) hnx hni hG bx h2 hP) hL hnl hal hx hP;have HBx:=hid bx;have hvl:(evalU x G.units).length=G.inputs+G.units.length:=by rw [evalU_len,hnx,hni]
 rw [<- hvl] at bL;have HBl:=hid bL;have hvl2:(evalU x G.units).length<=2048:=by rw [hvl];omega
 obtain ⟨V,hV⟩:∃ V,V=evalU x G.units:=⟨_,rfl⟩
 rw [<- hV] at HVa HBl HBx hvl2 ⊢;obtain ⟨nV,hnV⟩:∃ nV,nV=V.length:=⟨_,rfl⟩
 have HNV:=hid hnV;rw [<- hnV] at hvl2;clear hal hx hU hO hX hG hP hnx hni bx hL hnl bL hvl hV hnV q2 q3
 go_enter Tryz.func40,Tryz.ntmps40
 go_upto_region 1 with fail
 generalize w.alloc (.cells #[.int .i64 (nx:Int),.slice aU G.units.length cU,.slice aO G.outs.length cO] 30)=W at *;obtain ⟨x0,x1,x2,xf,xlt⟩:=HX.out
 go_wp2_with fail
 refine HVa.out.mono ?_
 rintro e w1 ⟨aV,cV,rfl,hcV,hV,hb1⟩;have hlv:(V.map ratL,(0:Int)).1.length=nV:=by rw [List.length_map,HNV.out]
 have HB1:=htr HAl hb1;have HVr:=hid (show RatsAt w1 aV (V.map ratL) from hV);rw [hlv] at hcV ⊢;simp only at hcV ⊢;clear hb1 hV HVa x0 x1 x2 xf xlt hlv;go_wp2
 go_loopw [10,11] (fun v i wr=>∃ (k:Nat) (a:Option Addr) (c:Nat),k<=nl/\v=.slice a k c/\i=.int .i64 (k:Int)/\Hid (OutI w1 wr (.slice a k c) (((L.take k).map (evalA V)).map ratL))) (fun _ i _=>nl - (intOf i).toNat)
 case atStart=>exact ⟨0,none,0,Nat.zero_le _,rfl,rfl,OutI.start w1⟩
 case round=>
  obtain ⟨k,a0,c0,hk,rfl,rfl,HOut⟩:=hrel;have HBr:=htr HB1 HOut.out.bl
  by_cases hlt:k < nl
  ·obtain ⟨bf,of,f,p0,p1,p2,p3,hbe,hbf,hfx,e0,e1,e2,e3,hfv⟩:=(HLs.out.below formK HBr.out).pick (k:=k) (by rw [HNl.out];exact hlt);obtain ⟨xa,xn,xc,xb,xan,xnn,xcn,xad,xnd,xcd,rfl,rfl,rfl,rfl⟩:=hfv.spell;have HE:=hid (r7Eval cV hfv.val (HVr.out.below HOut.out.bl) HNV.out.symm (HBl.out f (List.mem_of_getElem? hfx)) HBx.out h2 (HP.out.mono (by rw [<- HNV.out];exact hvl2)));obtain ⟨P,hPq⟩:∃ P,P=evalA V f:=⟨_,rfl⟩
   rw [<- hPq] at HE;have HVl:Hid ((((L.take k).map (evalA V)).map ratL).length=k):=by unfold Hid;rw [List.length_map,List.length_map,List.length_take,HNl.out];omega
   have HSuc:Hid (((L.take k).map (evalA V)).map ratL++[ratL P]=((L.take (k+1)).map (evalA V)).map ratL):=by
    unfold Hid;rw [take_snoc hfx,List.map_append,List.map_append,hPq];rfl
   subst hbe;clear hfx hfv hPq
   go_wp2_with fail
   refine HE.out.mono ?_
   rintro e w2 ⟨v2,rfl,hv2,hb2⟩;obtain ⟨bn',bd',dn',dd',rfl,g2,g3,g4,g5⟩:=hv2.ex;have hal1:=blA w2 (.cells #[.bool (ratL P).neg,.slice bn' (ratL P).num.length dn',.slice bd' (ratL P).den.length dd'] 51);obtain ⟨HYb,HO2⟩:=hd2 (Box3.alloc w2 (.bool (ratL P).neg) (.slice bn' (ratL P).num.length dn') (.slice bd' (ratL P).den.length dd') 51) ((HOut.out.below hb2).below hal1);have hv3:=hv2.below hal1;obtain ⟨G4,G5⟩:=hd2 (g4.below hal1) (g5.below hal1);clear hv2 hb2 g4 g5 hal1 HE e0 e1 e2 e3 hbf hv3
   go_upto_region 9 with fail
   generalize w2.alloc (.cells #[.bool (ratL P).neg,.slice bn' (ratL P).num.length dn',.slice bd' (ratL P).den.length dd'] 51)=w3 at *;obtain ⟨y0,y1,y2,yf,ylt⟩:=HYb.out;have HRow:=hid (Row1.alloc g2 g3 G4.out G5.out 51);have hal4:=blA w3 (.cells #[.bool (ratL P).neg,.slice bn' (ratL P).num.length dn',.slice bd' (ratL P).den.length dd'] 51);have HO4:=hid (HO2.out.below hal4);clear hal4
   go_wp2_with (at_builtin;refine wpList_appR2 rfl (.tmp 38) (.tmp 40) 35 rfl w1.heap.size Tryz.underlying35 Tryz.infoRat (.slice a0 k c0) k _ HVl.out rfl HO4.out.own _ (ratL P) HRow.out rfl (by omega) HO4.out.bl.size ?_;intro b3 k3 w5 hown hk3 hg hbe hnx;have HPost:=hid (show OutI w1 w5 (.slice b3 (k+1) k3) (((L.take k).map (evalA V)).map ratL++[ratL P]) from ⟨hown,HO4.out.bl.trans hbe⟩);clear hown hg hbe hnx)
   rw [HSuc.out] at HPost;go_roundw
   case rel=>exact ⟨k+1,b3,k3,hlt,rfl,by go_num,HPost.out⟩
   case measure=>simp [intOf];omega
  ·obtain rfl:k=nl:=by omega
   have hNP:RunPost w ((L.map (evalA V)).map ratL,0) (.returned (.tuple #[.slice a0 k c0,.int .i64 0])) wr:=by
    have h:=HOut.out;rw [List.take_of_length_le (by rw [HNl.out];exact Nat.le_refl _)] at h;have hl:((L.map (evalA V)).map ratL).length=k:=by rw [List.length_map,List.length_map,HNl.out]
    obtain ⟨a,c,e,h1,h2,h3⟩:=h.ret hl (by omega) HB1.out;injection e with e
    injection e with ea _ ec
    subst ea ec;exact ⟨a0,c0,by rw [hl],h1,h2,h3⟩
   have HNP:=hid hNP;clear hNP;go_wp2;exact bodyPost_ret (v:=.tuple #[.slice a0 k c0,.int .i64 0]) (by simp [results,Tryz.results40,go_sem]) rfl HNP.out
theorem r15Outputs {w:World} {G:GraphQ} {D1 B1 D2 B2 nx no:Nat} {aU aO ax:Option Addr} {cU cO:Nat} {x:List Rat} (cx:Nat) (hU:FormsAt w aU G.units) (hO:FormsAt w aO G.outs) (hX:RatsAt w ax (x.map ratL)) (hnx:x.length=nx) (hni:G.inputs=nx) (hno:G.outs.length=no) (hG:GrOK G D1 B1)
  (bx:BdL D2 B2 (evalU x G.units)) (h2:0 < D2) (hP:PayE D1 B1 D2 B2 2048):
  Calls Tryz.prog 17 #[.agg #[.int .i64 (nx:Int),.slice aU G.units.length cU,.slice aO no cO],.slice ax nx cx] w (RunPost w ((G.outs.map (evalA (evalU x G.units))).map ratL,0)):=by
 have q2:=hG.o2;have hal:=blA w (.cells #[.int .i64 (nx:Int),.slice aU G.units.length cU,.slice aO no cO] 30);have hx:=Box3.alloc w (.int .i64 (nx:Int)) (.slice aU G.units.length cU) (.slice aO no cO) 30;have hF:=r15forms (cU:=cU) (cO:=cO) cO cx (hU.below formK hal) (hO.below formK hal) (hX.below hal) hnx hni hG bx h2 hP (hO.below formK hal) hno (by omega) hG.bo;rw [hno] at hF;obtain ⟨HF,HAl,HX⟩:=hd3 hF hal hx;generalize (G.outs.map (evalA (evalU x G.units))).map ratL=RR at *;clear hal hx hU hO hX hG hP hnx hni hno bx hF q2
 go_enter Tryz.func17,Tryz.ntmps17
 go_upto_region 1 with fail
 generalize w.alloc (.cells #[.int .i64 (nx:Int),.slice aU G.units.length cU,.slice aO no cO] 30)=W at *;obtain ⟨x0,x1,x2,xf,xlt⟩:=HX.out
 go_wp2_with fail
 refine HF.out.mono ?_
 rintro e w1 ⟨a,c,rfl,hc,hR,hb⟩;have HB:=htr HAl hb;have HR:=hid (show RatsAt w1 a RR from hR);generalize hn:RR.length=n at *;have HN:=hid hn;clear hb hR hn HF;go_wp2
 refine bodyPost_ret (v:=.tuple #[.slice a n c,.int .i64 0]) (by simp [results,Tryz.results17,go_sem]) rfl ?_
 exact ⟨a,c,by rw [HN.out],by rw [HN.out];exact hc,HR.out,HB.out⟩
structure UnB (x:List Rat) (D1 C1 D2 C2 N:Nat) (U:List AffQ):Prop where
 good:GoodU x.length U
 bu:BdFs D1 C1 N U
 ev:BdL D2 C2 (evalU x U)
theorem UnB.mono {x:List Rat} {D1 C1 D2 C2 C1' C2' N:Nat} {U:List AffQ} (h:UnB x D1 C1 D2 C2 N U) (h1:C1<=C1') (h2:C2<=C2'):UnB x D1 C1' D2 C2' N U:=⟨h.good,h.bu.mono h1 (Nat.le_refl _),h.ev.mono h2⟩
theorem UnB.bump {x:List Rat} {D1 C1 D2 C2 N k1 k2:Nat} {U:List AffQ} (h:UnB x D1 C1 D2 C2 N U) (h1:0 < k1) (h2:0 < k2):UnB x (D1 * k1) C1 (D2 * k2) C2 N U:=⟨h.good,h.bu.bump h1,h.ev.bump h2⟩
theorem UnB.snoc {x:List Rat} {D1 C1 D2 C2 N:Nat} {U:List AffQ} {f:AffQ} (h:UnB x D1 C1 D2 C2 N U) (hc:f.Can) (hb:bndF (x.length+U.length) f) (hf:BdF D1 C1 N f) (hv:Bd D2 C2 (evalA (evalU x U) f)) (h0:0 < D2):UnB x D1 C1 D2 C2 N (U++[f]):=by
 refine ⟨h.good.snoc hc hb,h.bu.snoc hf,?_⟩
 rw [evalU_snoc];intro q hq
 rcases List.mem_append.1 hq with hq | hq
 ·exact h.ev q hq
 ·rw [List.mem_singleton] at hq;rw [hq];exact hv.maxQ (Bd.zero h0)
theorem maxL_bd {D B:Nat} {l:List Rat} (h:BdL D B l) (hD:0 < D):Bd D B (maxL l):=Bd.pmax h hD _
theorem UnB.great {x:List Rat} {D1 B1 e D2 B2 N:Nat} (hD1:0 < D1) (hB1:1<=B1) (hD2:0 < D2):∀ (fuel:Nat) (U l:List AffQ),UnB x D1 (2 * (B1+e)) D2 (2 * B2) N U->GoodF (x.length+U.length) l->BdFs D1 B1 N l->BdL D2 B2 (l.map (evalA (evalU x U)))->fuel<=e->1<=l.length->l.length<=fuel->x.length+U.length+(l.length - 1)<=N->
  UnB x D1 (2 * (B1+e)) D2 (2 * B2) N (greatF x.length fuel U l).1
 | 0,U,l,_,_,_,_,_,h1,h2,_=>by omega
 | fuel+1,U,l,hU,hl,hb,hv,he,h1,h2,hN=>by
  by_cases k:l.length=1
  ·rw [greatF_one k];exact hU
  ·obtain ⟨h,hh⟩:∃ h,h=(l.length+1) / 2:=⟨_,rfl⟩
   have lt:(l.take h).length=h:=by rw [List.length_take];omega
   have ld:(l.drop h).length=l.length - h:=List.length_drop;have hlT:GoodF (x.length+U.length) (l.take h):=fun f hf=>hl f (List.mem_of_mem_take hf)
   obtain ⟨a1,a2,a3,a4⟩:=greatF_ok x fuel U (l.take h) hU.good hlT (by omega) (by omega);obtain ⟨V1,e1⟩:=greatF_app x.length fuel U (l.take h);have c1:=greatF_len x.length fuel U (l.take h) (by omega) (by omega);have ih1:=UnB.great (e:=e) hD1 hB1 hD2 fuel U (l.take h) hU hlT (fun f hf=>hb f (List.mem_of_mem_take hf)) (fun q hq=>hv q (by
    obtain ⟨f,hf,rfl⟩:=List.mem_map.1 hq;exact List.mem_map_of_mem (List.mem_of_mem_take hf))) (by omega) (by omega) (by omega) (by omega)
   have bd1:=(BdF.great hD1 hB1 x.length fuel e U (l.take h) (fun f hf=>hb f (List.mem_of_mem_take hf)) (by omega) (by omega) (by omega) (by omega) hU.bu).2;obtain ⟨p1,hp1⟩:∃ p,p=greatF x.length fuel U (l.take h):=⟨_,rfl⟩
   rw [<- hp1] at a1 a2 a3 a4 e1 c1 ih1 bd1;obtain ⟨U1,a⟩:=p1;simp only at a1 a2 a3 a4 e1 c1 ih1 bd1;have hl2:GoodF (x.length+U1.length) (l.drop h):=fun f hf=>⟨(hl f (List.mem_of_mem_drop hf)).1,(hl f (List.mem_of_mem_drop hf)).2.mono (by rw [e1,List.length_append];omega)⟩
   have hvD:BdL D2 B2 ((l.drop h).map (evalA (evalU x U1))):=by
    rw [e1,map_more (fun f hf=>hl f (List.mem_of_mem_drop hf))];intro q hq;obtain ⟨f,hf,rfl⟩:=List.mem_map.1 hq;exact hv _ (List.mem_map_of_mem (List.mem_of_mem_drop hf))
   obtain ⟨b1,b2,b3,b4⟩:=greatF_ok x fuel U1 (l.drop h) a1 hl2 (by omega) (by omega);obtain ⟨V2,e2⟩:=greatF_app x.length fuel U1 (l.drop h);have c2:=greatF_len x.length fuel U1 (l.drop h) (by omega) (by omega);have ih2:=UnB.great (e:=e) hD1 hB1 hD2 fuel U1 (l.drop h) ih1 hl2 (fun f hf=>hb f (List.mem_of_mem_drop hf)) hvD (by omega) (by omega) (by omega) (by omega);have bd2:=(BdF.great hD1 hB1 x.length fuel e U1 (l.drop h) (fun f hf=>hb f (List.mem_of_mem_drop hf)) (by omega) (by omega) (by omega) (by omega) ih1.bu).2;obtain ⟨p2,hp2⟩:∃ p,p=greatF x.length fuel U1 (l.drop h):=⟨_,rfl⟩
   rw [<- hp2] at b1 b2 b3 b4 e2 c2 ih2 bd2;obtain ⟨U2,b⟩:=p2;simp only at b1 b2 b3 b4 e2 c2 ih2 bd2;rw [greatF_more (U1:=U1) (U2:=U2) (a:=a) (b:=b) (by omega) (by rw [<- hh];exact hp1.symm) (by rw [<- hh];exact hp2.symm)];have a3':bndF (x.length+U2.length) a:=a3.mono (by rw [e2,List.length_append];omega);show UnB x D1 (2 * (B1+e)) D2 (2 * B2) N (U2++[addA (-1) b a])
   refine ih2.snoc (addA_can _ _ _) (bnd_add b3 a3') ((bd2.sub bd1).mono (by omega) (Nat.le_refl _)) ?_ hD2
   have ea:evalA (evalU x U2) a=maxL ((l.take h).map (evalA (evalU x U))):=by
    rw [e2,eval_more a3];exact a4
   rw [evalA_add _ (-1) b2 a2,neg_one_sub,ea,b4];have va:BdL D2 B2 ((l.take h).map (evalA (evalU x U))):=fun q hq=>by
    obtain ⟨f,hf,rfl⟩:=List.mem_map.1 hq;exact hv _ (List.mem_map_of_mem (List.mem_of_mem_take hf))
   have:=(maxL_bd hvD hD2).sub (maxL_bd va hD2);rw [show 2 * B2=B2+B2 by omega];exact this
theorem foldU_keep {β:Type} {f:List AffQ->β->List AffQ × AffQ} {n N:Nat} {P:List AffQ->Prop} (happ:∀ U b,∃ V,(f U b).1=U++V):∀ (l:List β) (U:List AffQ),(∀ U b,b ∈ l->P U->n+(f U b).1.length<=N->P (f U b).1)->P U->n+(foldU f l U).1.length<=N->P (foldU f l U).1
 | [],U,_,hU,_=>hU
 | b::r,U,h,hU,hN=>by
  have hN':n+(foldU f r (f U b).1).1.length<=N:=hN;obtain ⟨V,e⟩:=foldU_more happ r (f U b).1;exact foldU_keep happ r (f U b).1 (fun U x hx=>h U x (List.mem_cons_of_mem _ hx)) (h U b List.mem_cons_self hU (by rw [e,List.length_append] at hN';omega)) hN'
theorem lowLay_un {x:List Rat} {U:List AffQ} {l:LayL} {s:List Int} {X fr:List AffQ} {D1 B1 D2 B2 N:Nat} (hU:UnB x D1 B1 D2 B2 N U) (hX:GoodF (x.length+U.length) X) (hbX:BdFs D1 B1 N X) (hvX:BdL D2 B2 (X.map (evalA (evalU x U)))) (hf:FitL l s) (hD1:0 < D1) (hB1:1<=B1) (hD2:0 < D2)
  (hN:x.length+(lowLay x.length U l s X fr).1.length<=N):UnB x D1 (2 * (B1+262144)) D2 (2 * B2) N (lowLay x.length U l s X fr).1:=by
 have stay:UnB x D1 (2 * (B1+262144)) D2 (2 * B2) N U:=hU.mono (by omega) (by omega);unfold lowLay at hN ⊢
 by_cases k1:l.kind=1
 ·rw [if_pos k1];exact stay
 rw [if_neg k1] at hN ⊢
 by_cases k2:l.kind=2
 ·rw [if_pos k2];exact stay
 rw [if_neg k2] at hN ⊢
 by_cases k3:l.kind=3
 ·rw [if_pos k3] at hN ⊢
  cases hf with
  | pool q hk hq ht hs e1 e2 e3 e4 hp hwl hz=>
   rw [hwl] at hN ⊢;have hC:(s.getD 0 0).toNat=q.C:=by rw [hs];rfl
   have hn:l.kh.toNat * l.kw.toNat=q.kh * q.kw:=by rw [e1,e2];rfl
   have hlen:=grps_len (q:=q) hC hn;have hpos:1<=q.kh * q.kw:=Nat.mul_pos hq.kh1 hq.kw1;have hbd:=Win.len_bd hq ht;rw [q.one_len] at hbd;have hkl:q.kh * q.kw<=262144:=Nat.le_trans (Nat.le_mul_of_pos_left _ hq.c1) hbd.2.1;have hr:=foldU_keep (f:=fun U g=>greatF x.length g.length U (valsF g X)) (n:=x.length) (N:=N) (P:=fun U'=>(∃ W,U'=U++W)/\UnB x D1 (2 * (B1+262144)) D2 (2 * B2) N U') (fun U b=>greatF_app _ _ _ _) (grpsL (s.getD 0 0).toNat (l.kh.toNat * l.kw.toNat) q.all) U (fun U' g hg hP hN2=>by
    obtain ⟨⟨W,hW⟩,hB⟩:=hP;have hgl:=hlen g hg;have hvl:=valsF_len g X;rw [greatF_len x.length g.length U' (valsF g X) (by omega) (by omega)] at hN2;have hX':GoodF (x.length+U'.length) X:=hX.mono (by rw [hW,List.length_append];omega);obtain ⟨V,hV⟩:=greatF_app x.length g.length U' (valsF g X)
    refine ⟨⟨W++V,by rw [hV,hW,List.append_assoc]⟩,?_⟩
    refine UnB.great (e:=262144) hD1 hB1 hD2 g.length U' (valsF g X) hB (vals_good hX' g) (hbX.vals hD1 g) ?_ (by omega) (by omega) (by omega) (by omega)
    rw [vals_map,hW,map_more hX];exact hvX.vals hD2 g) ⟨⟨[],by rw [List.append_nil]⟩,stay⟩ hN
   exact hr.2
  | dense R hk=>omega
  | conv q O hk=>omega
  | keep hk=>omega
  | add hk=>omega
 rw [if_neg k3] at hN ⊢
 by_cases k4:l.kind=4
 ·rw [if_pos k4];exact stay
 rw [if_neg k4] at hN ⊢
 by_cases k5:l.kind=5
 ·rw [if_pos k5] at hN ⊢;have hr:=foldU_keep (f:=unitF x.length) (n:=x.length) (N:=N) (P:=fun U'=>(∃ W,U'=U++W)/\UnB x D1 (2 * (B1+262144)) D2 (2 * B2) N U') (fun U b=>unitF_app _ _ _) X U (fun U' f hf hP _=>by
   obtain ⟨⟨W,hW⟩,hB⟩:=hP
   refine ⟨⟨W++[f],by show U'++[f]=_;rw [hW,List.append_assoc]⟩,?_⟩
   show UnB x D1 (2 * (B1+262144)) D2 (2 * B2) N (U'++[f])
   refine hB.snoc (hX f hf).1 ((hX f hf).2.mono (by rw [hW,List.length_append];omega)) ((hbX f hf).mono (by omega) (Nat.le_refl _)) ?_ hD2
   rw [hW,eval_more (hX f hf).2];exact (hvX _ (List.mem_map_of_mem hf)).mono (by omega)) ⟨⟨[],by rw [List.append_nil]⟩,stay⟩ hN
  exact hr.2
 rw [if_neg k5] at hN ⊢
 by_cases k7:l.kind=7
 ·rw [if_pos k7];exact stay
 rw [if_neg k7];exact stay
structure LoV (x:List Rat) (input:List Int) (S:List (List Int)) (U:List AffQ) (YF:List (List AffQ)) (YQ:List (List Rat)) (D1 B1 D2 B2 N:Nat):Prop where
 lo:LowI x input S U YF YQ
 lw:LwQ x.length input S U YF D1 B1 N
 tr:TrI input x S YQ D2 B2
 un:UnB x D1 B1 D2 B2 N U
theorem LoV.start {x:List Rat} {input:List Int} {D2 B2 N:Nat} (h:(x.length:Int)=sizeL input) (hx:BdL D2 B2 x) (h1:0 < D2) (h2:1<=B2) (hN:x.length<=N):LoV x input [] [] [] [] 1 1 D2 B2 N:=
 ⟨LowI.start h,LwQ.start h hN,⟨rfl,by simp,h,h1,h2,hx,by simp⟩,⟨GoodU.nil _,BdFs.nil _ _ _,hx⟩⟩
theorem LoV.step {x:List Rat} {input:List Int} {S:List (List Int)} {U:List AffQ} {YF:List (List AffQ)} {YQ:List (List Rat)} {D1 B1 D2 B2 N:Nat} {l:LayL} (h:LoV x input S U YF YQ D1 B1 D2 B2 N) (hl:(outSL input S l).2=0) (hs:SmallL l) (hv:validL (currL input S)=true)
  (hN:x.length+(lowLay x.length U l (currL input S) (currF (varsF x.length) YF) (fromF (varsF x.length) YF l.frm)).1.length<=N):
  ∃ k1 k2,k1<=WQ/\k2<=WQ/\LoV x input (S++[(outSL input S l).1]) (lowLay x.length U l (currL input S) (currF (varsF x.length) YF) (fromF (varsF x.length) YF l.frm)).1 (YF++[(lowLay x.length U l (currL input S) (currF (varsF x.length) YF) (fromF (varsF x.length) YF l.frm)).2])
   (YQ++[layQ l (currL input S) (currQ x YQ) (fromQ x YQ l.frm)]) (D1 * k1) (9671406556917033397649408 * B1) (D2 * k2) (9671406556917033397649408 * B2) N:=by
 obtain ⟨k1,a1,a2,a3⟩:=h.lw.step hl hs hv hN;obtain ⟨k2,b1,b2,b3⟩:=h.tr.step hl hs hv;have hB1:=h.lw.hB;have hB2:=h.tr.hB;obtain ⟨c1,c2⟩:=h.lo.curr;have hun:=lowLay_un (fr:=fromF (varsF x.length) YF l.frm) h.un c1 h.lw.curr.2 (by rw [c2];exact h.tr.curr.2) (fit_of hl).1 h.lw.hD hB1 h.tr.hD hN
 refine ⟨k1,k2,a2,b2,h.lo.step hl,a3,b3,(hun.bump a1 b1).mono (by omega) (by omega)⟩
theorem lov_from {x:List Rat} {input:List Int} {N:Nat}:∀ {L:List LayL} {S T:List (List Int)} {U:List AffQ} {YF:List (List AffQ)} {YQ:List (List Rat)} {D1 B1 D2 B2:Nat},LoV x input S U YF YQ D1 B1 D2 B2 N->Chain input S T L->(∀ l ∈ L,SmallL l)->x.length+(lowFrom x.length input (varsF x.length) S YF U L).1.length<=N->
  ∃ D1' D2',D1'<=D1 * WQ^L.length/\D2'<=D2 * WQ^L.length/\LoV x input (S++T) (lowFrom x.length input (varsF x.length) S YF U L).1 (lowFrom x.length input (varsF x.length) S YF U L).2 (traceFrom input x S YQ L) D1' (9671406556917033397649408^L.length * B1) D2' (9671406556917033397649408^L.length * B2) N
 | [],S,T,U,YF,YQ,D1,B1,D2,B2,h,hc,_,_=>by
  have:T=[]:=List.eq_nil_of_length_eq_zero hc.1;subst this
  refine ⟨D1,D2,by simp,by simp,?_⟩
  rw [List.append_nil,List.length_nil,Nat.pow_zero,Nat.one_mul,Nat.one_mul];exact h
 | l::r,S,T,U,YF,YQ,D1,B1,D2,B2,h,hc,hs,hN=>by
  obtain ⟨s,T',rfl,ho,hc'⟩:=hc.head;have e:(outSL input S l).1=s:=by rw [ho]
  have hN':x.length+(lowFrom x.length input (varsF x.length) (S++[(outSL input S l).1]) (YF++[(lowLay x.length U l (currL input S) (currF (varsF x.length) YF) (fromF (varsF x.length) YF l.frm)).2]) (lowLay x.length U l (currL input S) (currF (varsF x.length) YF) (fromF (varsF x.length) YF l.frm)).1 r).1.length<=N:=hN;obtain ⟨V,hV⟩:=lowFrom_units (nI:=x.length) (input:=input) (x:=varsF x.length) (L:=r) (S:=S++[(outSL input S l).1]) (Y:=YF++[(lowLay x.length U l (currL input S) (currF (varsF x.length) YF) (fromF (varsF x.length) YF l.frm)).2]) (U:=(lowLay x.length U l (currL input S) (currF (varsF x.length) YF) (fromF (varsF x.length) YF l.frm)).1);have hN1:=hN';rw [hV,List.length_append] at hN1;obtain ⟨k1,k2,w1,w2,hst⟩:=h.step (l:=l) (by rw [ho]) (hs l (by simp)) (curr_valid (by rw [ho])) (by omega);rw [e] at hst hN';obtain ⟨D1',D2',d1,d2,hr⟩:=lov_from hst hc' (fun l hl=>hs l (by simp [hl])) hN'
  refine ⟨D1',D2',?_,?_,?_⟩
  ·rw [List.length_cons,Nat.pow_succ]
   refine Nat.le_trans d1 ?_
   rw [show D1 * (WQ^r.length * WQ)=D1 * WQ * WQ^r.length by ac_rfl];exact Nat.mul_le_mul_right _ (Nat.mul_le_mul_left _ w1)
  ·rw [List.length_cons,Nat.pow_succ]
   refine Nat.le_trans d2 ?_
   rw [show D2 * (WQ^r.length * WQ)=D2 * WQ * WQ^r.length by ac_rfl];exact Nat.mul_le_mul_right _ (Nat.mul_le_mul_left _ w2)
  ·rw [List.append_assoc] at hr;have e1:∀ B:Nat,9671406556917033397649408^(l::r).length * B=9671406556917033397649408^r.length * (9671406556917033397649408 * B):=fun B=>by rw [List.length_cons,Nat.pow_succ,Nat.mul_assoc]
   rw [e1,e1];show LoV x input (S++s::T') (lowFrom x.length input (varsF x.length) (S++[(outSL input S l).1]) (YF++[(lowLay x.length U l (currL input S) (currF (varsF x.length) YF) (fromF (varsF x.length) YF l.frm)).2]) (lowLay x.length U l (currL input S) (currF (varsF x.length) YF) (fromF (varsF x.length) YF l.frm)).1 r).1
    (lowFrom x.length input (varsF x.length) (S++[(outSL input S l).1]) (YF++[(lowLay x.length U l (currL input S) (currF (varsF x.length) YF) (fromF (varsF x.length) YF l.frm)).2]) (lowLay x.length U l (currL input S) (currF (varsF x.length) YF) (fromF (varsF x.length) YF l.frm)).1 r).2
    (traceFrom input x (S++[(outSL input S l).1]) (YQ++[layQ l (currL input S) (currQ x YQ) (fromQ x YQ l.frm)]) r) D1' _ D2' _ N
   rw [e];exact hr
theorem pay_gen (M C q p a b u c:Nat) (hM:2<=M) (hC:C<=M^3) {D1 D2 W B2 U:Nat} (h1:D1<=(M^p)^q) (h2:D2<=W * (M^p)^q) (hW:W<=M^a) (hU:U<=M^u) (hB:B2<=C^q * U) (hb:3 * q+(3 * q+u)+4<=b) (hc:b+(p * q+(a+p * q))+2<=c) (hM2:4096<=M):
  (C^q+2048 * (C^q * B2)+C^q * B2+B2) * (D1 * D2)+D1 * D2 < M^c:=by
 have e1:C^q<=M^(3 * q):=pow_le3 hC q;have e2:B2<=M^(3 * q+u):=Nat.le_trans hB (by rw [Nat.pow_add];exact Nat.mul_le_mul e1 hU);have e3:C^q * B2<=M^(3 * q+(3 * q+u)):=by rw [Nat.pow_add M (3 * q)];exact Nat.mul_le_mul e1 e2
 have m1:M^(3 * q)<=M^(3 * q+(3 * q+u)):=Nat.pow_le_pow_right (by omega) (by omega);have m2:M^(3 * q+u)<=M^(3 * q+(3 * q+u)):=Nat.pow_le_pow_right (by omega) (by omega);have m3:M^(3 * q+(3 * q+u)) * M<=M^b:=by
  rw [<- Nat.pow_succ];exact Nat.pow_le_pow_right (by omega) (by omega)
 have m4:M^(3 * q+(3 * q+u)) * 4096<=M^(3 * q+(3 * q+u)) * M:=Nat.mul_le_mul_left _ hM2;have hB':C^q+2048 * (C^q * B2)+C^q * B2+B2<=M^b:=by omega
 have d1:D1<=M^(p * q):=by rw [Nat.pow_mul];exact h1
 have d2:D2<=M^(a+p * q):=Nat.le_trans h2 (by rw [Nat.pow_add,Nat.pow_mul];exact Nat.mul_le_mul_right _ hW);have d3:D1 * D2<=M^(p * q+(a+p * q)):=by rw [Nat.pow_add M (p * q)];exact Nat.mul_le_mul d1 d2
 exact pow_room M hM hc hB' d3
theorem low_room {m:ModL} {x:List Rat} {G:GraphQ} {W:Nat} (h:lowerL m=(G,0)) (hx:(x.length:Int)=sizeL m.input) (hs:∀ l ∈ m.layers,SmallL l) (hl:m.layers.length<=12) (hW:W<=4294967296^30) (hW0:0 < W) (bx:BdL W 18446744073709551616 x):
  ∃ D1 B1 D2 B2,GrOK G D1 B1/\BdL D2 B2 (evalU x G.units)/\0 < D2/\PayE D1 B1 D2 B2 2048:=by
 obtain ⟨i1,i2,i3,i4,i5,i6⟩:=lower_size h;obtain ⟨hgU,hgO,hgi,hgv⟩:=lower_outs h hx;unfold lowerL at h
 by_cases h0:(shapesL m).2.2=0
 ·rw [if_pos h0] at h
  split at h
  ·simp [emptyG] at h
  ·obtain ⟨T,hF⟩:=fits_of (m:=m) [] h0;have hn:(sizeL m.input).toNat=x.length:=by omega
   rw [hn] at h;have hG:G=⟨x.length,(lowFrom x.length m.input (varsF x.length) [] [] [] m.layers).1,currF (varsF x.length) (lowFrom x.length m.input (varsF x.length) [] [] [] m.layers).2⟩:=(congrArg Prod.fst h).symm;obtain ⟨D1,D2,d1,d2,hV⟩:=lov_from (N:=x.length+G.units.length) (LoV.start hx bx hW0 (by omega) (by omega)) hF.ch hs (by rw [hG];exact Nat.le_refl _);rw [Nat.one_mul] at d1;rw [Nat.mul_one] at hV;have hbU:BdFs D1 (9671406556917033397649408^m.layers.length) (x.length+G.units.length) G.units:=by
    have:=hV.un.bu;rw [hG] at this ⊢;exact this
   have hbO:BdFs D1 (9671406556917033397649408^m.layers.length) (x.length+G.units.length) G.outs:=by
    have:=hV.lw.curr.2;rw [hG] at this ⊢;exact this
   have hbE:BdL D2 (9671406556917033397649408^m.layers.length * 18446744073709551616) (evalU x G.units):=by
    have:=hV.un.ev;rw [hG];exact this
   refine ⟨D1,_,D2,_,⟨i2,i3,i4,i5,i6,fun j f hj=>?_,by rw [hgi];exact hbO⟩,hbE,hV.tr.hD,?_⟩
   ·have hb:=hbU f (List.mem_of_getElem? hj);exact ⟨hb.can,by rw [hgi];exact (hgU j f hj).2,hb.c,hb.t⟩
   ·obtain ⟨p,hp,e⟩:=WQ_pow;have hWQ:WQ^m.layers.length<=WQ^12:=Nat.pow_le_pow_right one_le_WQ hl;rw [e] at hWQ d1 d2;have hq:9671406556917033397649408^m.layers.length<=9671406556917033397649408^12:=Nat.pow_le_pow_right (by omega) hl;unfold PayE
    refine Pay.le (D:=D1 * D2) (B:=9671406556917033397649408^12+2048 * (9671406556917033397649408^12 * (9671406556917033397649408^12 * 18446744073709551616))+9671406556917033397649408^12 * (9671406556917033397649408^12 * 18446744073709551616)+9671406556917033397649408^12 * 18446744073709551616) ?_ (Nat.le_refl _) ?_
    ·unfold Pay;have hc:80+(p * 12+(30+p * 12))+2<=524285:=by omega
     generalize (524285:Nat)=c at hc ⊢;exact pay_gen 4294967296 9671406556917033397649408 12 p 30 80 2 c (by omega) (by decide) (Nat.le_trans d1 hWQ) (Nat.le_trans d2 (Nat.mul_le_mul_left _ hWQ)) hW (U:=18446744073709551616) (by decide) (Nat.le_refl _) (by omega) hc (by omega)
    ·generalize 9671406556917033397649408^m.layers.length=A at hq ⊢;generalize 9671406556917033397649408^12=B at hq ⊢;have m1:A * 18446744073709551616<=B * 18446744073709551616:=Nat.mul_le_mul_right _ hq;have m2:A * (A * 18446744073709551616)<=B * (B * 18446744073709551616):=Nat.mul_le_mul hq m1;omega
 ·rw [if_neg h0] at h;exact absurd (congrArg Prod.snd h) h0
end Go.Proofs.YtfgmmghmmfmdgaaGreat
