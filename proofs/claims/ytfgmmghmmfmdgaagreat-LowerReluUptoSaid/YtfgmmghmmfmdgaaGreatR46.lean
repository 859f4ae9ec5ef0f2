/-
  Contracts of the functions that the statement reaches: RgG, LwD, LqA, LqB0.
-/
import Derived.Test.YtfgmmghmmfmdgaaGreatR45
set_option linter.all false
set_option maxRecDepth 100000
set_option maxHeartbeats 3200000
namespace Go.Proofs.YtfgmmghmmfmdgaaGreat
open Go.RowKit
open Go.Lib (hid)
theorem bd_neg1:Bd 1 1 (-1):=⟨by omega, -1,by rw [Rat.mkRat_one];rfl,by decide⟩
theorem r7Sub {w:World} {vf vg:Value} {f g:AffQ} {D B C N:Nat} (hf:FormV w vf f) (hg:FormV w vg g) (bf:BdF D B N f) (bg:BdF D C N g) (hP:Pay D (B+C)) (hN:N<=250000):
  Calls Tryz.prog 28 #[vf,vg] w (RetAf w (addA (-1) f g)):=by
 have hsg:BdF D C N (scA (-1) g):=by
  have h:=BdF.sc bd_neg1 bg
  rwa [Nat.one_mul,Nat.one_mul] at h
 have c1:∀ t ∈ g.ts,RatLe (ratL t.2) 1048575:=fun t ht=>(hP.b5 ((bg.mem ht).mono (by omega))).mono (by decide)
 have c2:RatLe (ratL g.c) 1048575:=(hP.b5 (bg.c.mono (by omega))).mono (by decide);have c3:RatLe (ratL (-1)) 1048575:=(bd_neg1.le (k:=1) (by decide)).mono (by decide);have c4:∀ t ∈ g.ts,RatLe (ratL (t.2 * (-1))) 1048576:=fun t ht=>by
  have h:=(Bd.zero (B:=0) bg.pos).sub (bg.mem ht);rw [show (0:Rat) - t.2=t.2 * (-1) by grind] at h;exact (hP.b5 (h.mono (by omega))).mono (by decide)
 have hlG:g.ts.length<=500000:=by have:=bg.few;omega
 have hcG:=bg.can;have HAd0:Hid (∀ (X:World) (v u:Value),FormV X v f->FormV X u (scA (-1) g)->Calls Tryz.prog 48 #[v,u] X (RetAf X (addA (-1) f g))):=fun X v u h1 h2=>by
  have h:=r7Add h1 h2 bf hsg hP hN
  rwa [subA_add] at h
 obtain ⟨aF,cF,fan,fad,fcn,fcd,rfl,hcF,htF,l1,l2,u1,u2⟩:=hf.parts;obtain ⟨aG,cG,gan,gad,gcn,gcd,rfl,hcG2,htG,m1,m2,v1,v2⟩:=hg.parts;obtain ⟨HF,HG⟩:=hd2 hf hg;obtain ⟨RR,hRR⟩:∃ RR,RR=addA (-1) f g:=⟨_,rfl⟩
 obtain ⟨SG,hSG⟩:∃ SG,SG=scA (-1) g:=⟨_,rfl⟩
 rw [<- hRR, <- hSG] at HAd0;rw [<- hRR];have HT:=hid (TwoF.mk' w (.slice aF f.ts.length cF) (.bool (ratL f.c).neg) (.slice fan (ratL f.c).num.length fcn) (.slice fad (ratL f.c).den.length fcd) (.slice aG g.ts.length cG) (.bool (ratL g.c).neg) (.slice gan (ratL g.c).num.length gcn) (.slice gad (ratL g.c).den.length gcd) 53);have HSc0:Hid (∀ (X:World) (v u:Value),FormV X v g->RatV X u (ratL (-1))->Calls Tryz.prog 49 #[v,u] X (RetAf X SG)):=fun X v u h1 h2=>by
  rw [hSG];exact r7Scale h1 h2 hcG c1 c2 c3 c4 hlG
 have HOf:Hid (∀ X,Calls Tryz.prog 27 #[.int .i64 (-1)] X (RetR X (ratL (-1)))):=fun X=>by
  have h:=r3Of X (-1) (by decide) (by decide);exact h
 clear hf hg bf bg hP htF htG u1 u2 v1 v2 hRR hSG l1 l2 m1 m2 hsg c1 c2 c3 c4 hcG hlG
 go_enter Tryz.func28,Tryz.ntmps28
 go_upto_region 1 with fail
 generalize ((w.alloc (.cells #[.slice aF f.ts.length cF,.bool (ratL f.c).neg,.slice fan (ratL f.c).num.length fcn,.slice fad (ratL f.c).den.length fcd] 53)).alloc (.cells #[.slice aG g.ts.length cG,.bool (ratL g.c).neg,.slice gan (ratL g.c).num.length gcn,.slice gad (ratL g.c).den.length gcd] 53)).alloc (.cells #[.slice none 0 0,.bool false,.slice none 0 0,.slice none 0 0] 53)=W3 at *;have HSc:Hid (∀ X,Below W3.heap.size W3 X->∀ u,RatV X u (ratL (-1))->Calls Tryz.prog 49 #[.agg #[.slice aG g.ts.length cG,.bool (ratL g.c).neg,.slice gan (ratL g.c).num.length gcn,.slice gad (ratL g.c).den.length gcd],u] X (RetAf X SG)):=fun X hb u hu=>HSc0.out X _ u (HG.out.below (HT.out.bl.trans (hb.mono HT.out.bl.size))) hu
 have HAd:Hid (∀ X,Below W3.heap.size W3 X->∀ u,FormV X u SG->Calls Tryz.prog 48 #[.agg #[.slice aF f.ts.length cF,.bool (ratL f.c).neg,.slice fan (ratL f.c).num.length fcn,.slice fad (ratL f.c).den.length fcd],u] X (RetAf X RR)):=fun X hb u hu=>HAd0.out X _ u (HF.out.below (HT.out.bl.trans (hb.mono HT.out.bl.size))) hu
 refine wp_region_slots_tail 5 (by kernel_rfl) (by kernel_rfl) (by kernel_rfl) (by kernel_rfl) (by decide) (From W3.heap.size W3) (fun w w'=>Below w.heap.size w w') (GQ [.val (.agg #[.slice aF f.ts.length cF,.bool (ratL f.c).neg,.slice fan (ratL f.c).num.length fcn,.slice fad (ratL f.c).den.length fcd]),.val (.agg #[.slice aG g.ts.length cG,.bool (ratL g.c).neg,.slice gan (ratL g.c).num.length gcn,.slice gad (ratL g.c).den.length gcd]),.rat (-1),.frm SG,.frm RR]) (fun i v w w' h hb=>GQ_below h hb) (From.start (Nat.le_refl _)) ?_ ?_
 ·intro ops;simp only [List.take_succ_cons,List.take_zero,Shows]
  refine ⟨?v0,?v1,?_,?_,?_,trivial⟩
  all_goals (intro y' X hR hL;have hB:=hR.base;have HT2:=hid (HT.out.below hR.be);obtain ⟨f0,f1,f2,f3,_,ft⟩:=HT2.out.fb;obtain ⟨g0,g1,g2,g3,_,gt⟩:=HT2.out.gb;simp only [Laid,Region.binds,forall_const,Bool.false_eq_true,false_implies,GQ,List.getElem?_cons_zero,List.getElem?_cons_succ] at hL;simp [fillFrom,Act.put])
  case v0|v1=>
   try simp only [hL]
   clear hL;have HR:=hid hR;clear hR;go_wp2
   first | refine ⟨_,rfl,?_⟩ | skip
   exact ⟨HR.out,Below.refl _ _,rfl⟩
  ·try simp only [hL]
   clear hL;have HR:=hid hR;clear hR;have HCt:=hid (HOf.out X)
   go_wp2_with fail
   refine HCt.out.mono ?_
   rintro e w1 ⟨v1,rfl,kv,kb⟩;obtain ⟨KV,KB⟩:=hd2 kv kb;clear kv kb HCt;go_wp2
   first | refine ⟨_,rfl,?_⟩ | skip
   exact ⟨⟨Nat.le_trans HR.out.base KB.out.size,HR.out.be.trans (KB.out.mono HR.out.base)⟩,KB.out,KV.out⟩
  ·generalize y' 1=y1 at hL ⊢;generalize y' 2=y2 at hL ⊢;obtain ⟨rfl,H2,_,_⟩:=hL;obtain ⟨K2,HR⟩:=hd2 H2 hR;clear hR H2;have HCt:=hid (HSc.out X HR.out.be _ K2.out)
   go_wp2_with fail
   refine HCt.out.mono ?_
   rintro e w1 ⟨v1,rfl,kv,kb⟩;obtain ⟨KV,KB⟩:=hd2 kv kb;clear kv kb HCt;go_wp2
   first | refine ⟨_,rfl,?_⟩ | skip
   exact ⟨⟨Nat.le_trans HR.out.base KB.out.size,HR.out.be.trans (KB.out.mono HR.out.base)⟩,KB.out,KV.out⟩
  ·generalize y' 0=y0 at hL ⊢;generalize y' 3=y3 at hL ⊢;obtain ⟨rfl,H3,_,_⟩:=hL;obtain ⟨K3,HR⟩:=hd2 H3 hR;clear hR H3;have HCt:=hid (HAd.out X HR.out.be _ K3.out)
   go_wp2_with fail
   refine HCt.out.mono ?_
   rintro e w1 ⟨v1,rfl,kv,kb⟩;obtain ⟨KV,KB⟩:=hd2 kv kb;clear kv kb HCt;go_wp2
   first | refine ⟨_,rfl,?_⟩ | skip
   exact ⟨⟨Nat.le_trans HR.out.base KB.out.size,HR.out.be.trans (KB.out.mono HR.out.base)⟩,KB.out,KV.out⟩
 ·intro ops y' X hR hL;have hB:=hR.base;have J4:=hL.2;simp only [GQ,List.getElem?_cons_zero,List.getElem?_cons_succ] at J4;have HT2:=hid (HT.out.below hR.be);obtain ⟨f0,f1,f2,f3,_,ft⟩:=HT2.out.fb;obtain ⟨g0,g1,g2,g3,_,gt⟩:=HT2.out.gb;clear hL;simp only [List.take_succ_cons,List.take_zero,List.drop_succ_cons,List.drop_zero];simp [fillFrom,Act.put];generalize y' 4=y4 at J4 ⊢;have HR:=hid hR;clear hR;have HV:=hid J4;obtain ⟨a5,c5,n5,d5,e5,g5,rfl,_⟩:=J4.parts;clear J4 f0 f1 f2 f3 ft g0 g1 g2 g3 gt;obtain ⟨r0,r1,r2,r3,rf,rlt⟩:=HT2.out.rb;have HO:=hid (HV.out.ret HT2.out.nr HT2.out.bl (by omega));clear HV;go_wp2;exact bodyPost_ret (by simp [results,Tryz.results28,go_sem,r0,r1,r2,r3,rlt,Nat.ne_of_lt rlt]) rfl HO.out
theorem rats2_alloc {w:World} {p q:RatL} {an ad bn bd:Option Addr} {cn cd dn dd:Nat} (b2:p.num.length<=cn) (b3:p.den.length<=cd) (b4:U32s w an p.num) (b5:U32s w ad p.den) (g2:q.num.length<=dn) (g3:q.den.length<=dd) (g4:U32s w bn q.num) (g5:U32s w bd q.den) (T:Nat):
  RatsAt (w.alloc (.cells #[.bool p.neg,.slice an p.num.length cn,.slice ad p.den.length cd,.bool q.neg,.slice bn q.num.length dn,.slice bd q.den.length dd] T)) (some ⟨w.heap.size,0,none⟩) [p,q]:=by
 have hal:=blA w (.cells #[.bool p.neg,.slice an p.num.length cn,.slice ad p.den.length cd,.bool q.neg,.slice bn q.num.length dn,.slice bd q.den.length dd] T)
 refine ⟨by simp,.inr ⟨w.heap.size,0,rfl,by simp,fun j x hj=>?_⟩⟩
 match j,hj with
 | 0,hj=>
  simp at hj;subst hj;exact ⟨an,ad,cn,cd,by rw [World.cell?_alloc_at _ _ _ _ rfl];rfl,by rw [World.cell?_alloc_at _ _ _ _ rfl];rfl,by rw [World.cell?_alloc_at _ _ _ _ rfl];rfl,⟨an,ad,cn,cd,rfl,b2,b3,b4.below hal,b5.below hal⟩⟩
 | 1,hj=>
  simp at hj;subst hj;exact ⟨bn,bd,dn,dd,by rw [World.cell?_alloc_at _ _ _ _ rfl];rfl,by rw [World.cell?_alloc_at _ _ _ _ rfl];rfl,by rw [World.cell?_alloc_at _ _ _ _ rfl];rfl,⟨bn,bd,dn,dd,rfl,g2,g3,g4.below hal,g5.below hal⟩⟩
theorem rats1_alloc {w:World} {p:RatL} {an ad:Option Addr} {cn cd:Nat} (b2:p.num.length<=cn) (b3:p.den.length<=cd) (b4:U32s w an p.num) (b5:U32s w ad p.den) (T:Nat):
  RatsAt (w.alloc (.cells #[.bool p.neg,.slice an p.num.length cn,.slice ad p.den.length cd] T)) (some ⟨w.heap.size,0,none⟩) [p]:=by
 have hal:=blA w (.cells #[.bool p.neg,.slice an p.num.length cn,.slice ad p.den.length cd] T)
 refine ⟨by simp,.inr ⟨w.heap.size,0,rfl,by simp,fun j x hj=>?_⟩⟩
 match j,hj with
 | 0,hj=>
  simp at hj;subst hj;exact ⟨an,ad,cn,cd,by rw [World.cell?_alloc_at _ _ _ _ rfl];rfl,by rw [World.cell?_alloc_at _ _ _ _ rfl];rfl,by rw [World.cell?_alloc_at _ _ _ _ rfl];rfl,⟨an,ad,cn,cd,rfl,b2,b3,b4.below hal,b5.below hal⟩⟩
theorem ex_mem {w w1 w2:World} {p q:RatL} {an ad bn bd:Option Addr} {cn cd dn dd:Nat} (hp:p=ratL 1) (hq:q=ratL (-1)) (kb1:Below (w.alloc (.cells #[.int .i64 2] 3)).heap.size (w.alloc (.cells #[.int .i64 2] 3)) w1) (kb2:Below w1.heap.size w1 w2)
  (b2:p.num.length<=cn) (b3:p.den.length<=cd) (b4:U32s w1 an p.num) (b5:U32s w1 ad p.den) (g2:q.num.length<=dn) (g3:q.den.length<=dd) (g4:U32s w2 bn q.num) (g5:U32s w2 bd q.den) {A:World}
  (hA:A=((((w2.alloc (.cells #[.bool p.neg,.slice an p.num.length cn,.slice ad p.den.length cd,.bool q.neg,.slice bn q.num.length dn,.slice bd q.den.length dd] 51)).alloc (zerO 51)).alloc
   (.cells #[.int .i64 1,.int .i64 0,.int .i64 1,.int .i64 0,.int .i64 0,.int .i64 0,.int .i64 0,.slice (some ⟨w2.heap.size,0,none⟩) 2 2,.slice (some ⟨w2.heap.size+1,0,none⟩) 1 1,.int .i64 5,.int .i64 0,.int .i64 0,.int .i64 0,.int .i64 0,.int .i64 0,.int .i64 0,.slice none 0 0,.slice none 0 0] 44)).alloc
   (.cells #[.slice (some ⟨w.heap.size,0,none⟩) 1 1,.slice (some ⟨w2.heap.size+1+1,0,none⟩) 2 2] 25))):
  Ints A Any (some ⟨w.heap.size,0,none⟩) [2]/\LaysAt A (some ⟨w2.heap.size+1+1,0,none⟩) [exD,exR]/\A.cell? ⟨w2.heap.size+1+1+1,0,none⟩=some (.slice (some ⟨w.heap.size,0,none⟩) 1 1)/\A.cell? ⟨w2.heap.size+1+1+1,1,none⟩=some (.slice (some ⟨w2.heap.size+1+1,0,none⟩) 2 2)/\
   w2.heap.size+1+1+1 < A.heap.size/\Below w.heap.size w A:=by
 have hst:=fun (W:World) (o:Obj)=>(Below.refl W.heap.size W).alloc (Nat.le_refl _) o
 have hW:=rats2_alloc b2 b3 (b4.below kb2) (b5.below kb2) g2 g3 g4 g5 51;have m1:=hst w2 (.cells #[.bool p.neg,.slice an p.num.length cn,.slice ad p.den.length cd,.bool q.neg,.slice bn q.num.length dn,.slice bd q.den.length dd] 51);have s1:(w2.alloc (.cells #[.bool p.neg,.slice an p.num.length cn,.slice ad p.den.length cd,.bool q.neg,.slice bn q.num.length dn,.slice bd q.den.length dd] 51)).heap.size=w2.heap.size+1:=by simp
 generalize w2.alloc (.cells #[.bool p.neg,.slice an p.num.length cn,.slice ad p.den.length cd,.bool q.neg,.slice bn q.num.length dn,.slice bd q.den.length dd] 51)=A1 at *;have hZ:=rats1_alloc (w:=A1) (p:=⟨false,[],[]⟩) (an:=none) (ad:=none) (cn:=0) (cd:=0) (Nat.le_refl _) (Nat.le_refl _) (U32s.nil _ _) (U32s.nil _ _) 51;have m2:=hst A1 (zerO 51);have s2:(A1.alloc (zerO 51)).heap.size=w2.heap.size+1+1:=by simp [s1]
 simp only [List.length_nil] at hZ;generalize A1.alloc (zerO 51)=A2 at *;have m3:=hst A2 (.cells #[.int .i64 1,.int .i64 0,.int .i64 1,.int .i64 0,.int .i64 0,.int .i64 0,.int .i64 0,.slice (some ⟨w2.heap.size,0,none⟩) 2 2,.slice (some ⟨w2.heap.size+1,0,none⟩) 1 1,.int .i64 5,.int .i64 0,.int .i64 0,.int .i64 0,.int .i64 0,.int .i64 0,.int .i64 0,.slice none 0 0,.slice none 0 0] 44);have hc:∀ i v,(#[.int .i64 1,.int .i64 0,.int .i64 1,.int .i64 0,.int .i64 0,.int .i64 0,.int .i64 0,.slice (some ⟨w2.heap.size,0,none⟩) 2 2,.slice (some ⟨w2.heap.size+1,0,none⟩) 1 1,.int .i64 5,.int .i64 0,.int .i64 0,.int .i64 0,.int .i64 0,.int .i64 0,.int .i64 0,.slice none 0 0,.slice none 0 0]:Array Value)[i]? =some v->
   (A2.alloc (.cells #[.int .i64 1,.int .i64 0,.int .i64 1,.int .i64 0,.int .i64 0,.int .i64 0,.int .i64 0,.slice (some ⟨w2.heap.size,0,none⟩) 2 2,.slice (some ⟨w2.heap.size+1,0,none⟩) 1 1,.int .i64 5,.int .i64 0,.int .i64 0,.int .i64 0,.int .i64 0,.int .i64 0,.int .i64 0,.slice none 0 0,.slice none 0 0] 44)).cell? ⟨w2.heap.size+1+1,i,none⟩=some v:=by
  intro i v h;rw [World.cell?_alloc_at _ _ _ _ s2.symm];exact h
 have s3:(A2.alloc (.cells #[.int .i64 1,.int .i64 0,.int .i64 1,.int .i64 0,.int .i64 0,.int .i64 0,.int .i64 0,.slice (some ⟨w2.heap.size,0,none⟩) 2 2,.slice (some ⟨w2.heap.size+1,0,none⟩) 1 1,.int .i64 5,.int .i64 0,.int .i64 0,.int .i64 0,.int .i64 0,.int .i64 0,.int .i64 0,.slice none 0 0,.slice none 0 0] 44)).heap.size=w2.heap.size+1+1+1:=by simp [s2]
 generalize A2.alloc (.cells #[.int .i64 1,.int .i64 0,.int .i64 1,.int .i64 0,.int .i64 0,.int .i64 0,.int .i64 0,.slice (some ⟨w2.heap.size,0,none⟩) 2 2,.slice (some ⟨w2.heap.size+1,0,none⟩) 1 1,.int .i64 5,.int .i64 0,.int .i64 0,.int .i64 0,.int .i64 0,.int .i64 0,.int .i64 0,.slice none 0 0,.slice none 0 0] 44)=A3 at *;have m4:=hst A3 (.cells #[.slice (some ⟨w.heap.size,0,none⟩) 1 1,.slice (some ⟨w2.heap.size+1+1,0,none⟩) 2 2] 25);have hb2:=Box2.alloc A3 (.slice (some ⟨w.heap.size,0,none⟩) 1 1) (.slice (some ⟨w2.heap.size+1+1,0,none⟩) 2 2) 25;rw [<- hA] at m4 hb2;rw [s3] at hb2;have hi:=ints1_of (x:=2) (by unfold I64;omega) (show (w.alloc (.cells #[.int .i64 2] 3)).cell? ⟨w.heap.size,0,none⟩=some (.int .i64 2) by rw [World.cell?_alloc_at _ _ _ _ rfl];rfl) (by simp);have t1:=kb1.trans (kb2.mono kb1.size);have t2:=t1.trans (m1.mono t1.size);have t3:=t2.trans (m2.mono t2.size);have t4:=t3.trans (m3.mono t3.size);have t5:=t4.trans (m4.mono t4.size);have u0:=hst w (.cells #[.int .i64 2] 3)
 refine ⟨hi.below t5,⟨by simp,.inr ⟨_,0,rfl,by have:=m4.size;omega,fun j x hj=>?_⟩⟩,hb2.c0,hb2.c1,hb2.lt,u0.trans (t5.mono u0.size)⟩
 have r34:∀ i v,A3.cell? ⟨w2.heap.size+1+1,i,none⟩=some v->A.cell? ⟨w2.heap.size+1+1,i,none⟩=some v:=fun i v h=>(m4.cell (p:=⟨w2.heap.size+1+1,i,none⟩) (by show w2.heap.size+1+1 < A3.heap.size;omega)).trans h
 match j,hj with
 | 0,hj=>
  simp at hj;subst hj
  refine ⟨some ⟨w2.heap.size,0,none⟩,some ⟨w2.heap.size+1,0,none⟩,2,1,⟨r34 _ _ (hc 0 _ rfl),r34 _ _ (hc 1 _ rfl),r34 _ _ (hc 2 _ rfl),r34 _ _ (hc 3 _ rfl),r34 _ _ (hc 4 _ rfl),r34 _ _ (hc 5 _ rfl),r34 _ _ (hc 6 _ rfl),r34 _ _ (hc 7 _ rfl),r34 _ _ (hc 8 _ rfl)⟩,?_,?_⟩
  ·show RatsAt _ _ [ratL 1,ratL (-1)]
   rw [<- hp, <- hq];exact ((hW.below m2).below m3).below m4
  ·show RatsAt _ _ [ratL 0]
   rw [ratL_zeroE];rw [s1] at hZ;exact (hZ.below m3).below m4
 | 1,hj=>
  simp at hj;subst hj;exact ⟨none,none,0,0,⟨r34 _ _ (hc 9 _ rfl),r34 _ _ (hc 10 _ rfl),r34 _ _ (hc 11 _ rfl),r34 _ _ (hc 12 _ rfl),r34 _ _ (hc 13 _ rfl),r34 _ _ (hc 14 _ rfl),r34 _ _ (hc 15 _ rfl),r34 _ _ (hc 16 _ rfl),r34 _ _ (hc 17 _ rfl)⟩,⟨by simp [exR],.inl rfl⟩,⟨by simp [exR],.inl rfl⟩⟩
theorem kLittle16 {w:World} {a:Option Addr} {L:List RatL} (c:Nat) (h:RatsAt w a L) (hL:∀ x ∈ L,RatLe x 1048576):
  Calls Tryz.prog 15 #[.slice a L.length c] w fun e w'=>e=.returned (.bool (littleL L))/\Below w.heap.size w w':=by
 have q1:=h.len;obtain ⟨H,HV⟩:=hd2 h (r3ValidAll c h hL);generalize hR:littleL L=R;unfold littleL at hR;have HR:=hid hR;clear h hL hR
 go_enter Tryz.func15,Tryz.ntmps15
 go_wp2
 go_loopw [3] (fun i wr=>∃ j:Nat,j<=L.length/\i=.int .i64 (j:Int)/\Hid ((L.take j).all smallR=true)/\Hid (w=wr)) (fun i _=>L.length - (intOf i).toNat)
 case atStart=>exact ⟨0,Nat.zero_le _,rfl,rfl,rfl⟩
 case round=>
  obtain ⟨j,hj,rfl,HA,HW⟩:=hrel;have ew:=HW.out;clear HW;subst ew
  by_cases hlt:j < L.length
  ·obtain ⟨b,off,x,an,ad,cn,cd,rfl,hb,hx,x0,x1,x2,hv⟩:=H.out.pick hlt;obtain ⟨HT,HM⟩:=hd2 (allR_take hx) (List.mem_of_getElem? hx);clear hx hv
   by_cases g1:x.num.length<=2
   ·by_cases g2:x.den.length<=1
    ·have HA2:Hid ((L.take (j+1)).all smallR=true):=by unfold Hid;rw [HT.out,HA.out];unfold smallR;rw [decide_eq_true g1,decide_eq_true g2];rfl
     go_wp2;go_roundw
     case rel=>exact ⟨j+1,hlt,by go_num,HA2.out,by first | rfl | exact True.intro⟩
     case measure=>simp [intOf];omega
    ·have HF:Hid (R=false):=by
      unfold Hid;have:L.all smallR=false:=by rw [List.all_eq_false];exact ⟨x,HM.out,by simp [smallR,g2]⟩
      rw [<- HR.out,this];rfl
     go_wp2;go_ret;exact ⟨ret_bool HF.out.symm,Below.refl _ _⟩
   ·have HF:Hid (R=false):=by
     unfold Hid;have:L.all smallR=false:=by rw [List.all_eq_false];exact ⟨x,HM.out,by simp [smallR,g1]⟩
     rw [<- HR.out,this];rfl
    go_wp2;go_ret;exact ⟨ret_bool HF.out.symm,Below.refl _ _⟩
  ·obtain rfl:j=L.length:=by omega
   have HE:Hid (L.all validR=R):=by
    have:=HA.out;rw [List.take_length] at this;unfold Hid;rw [<- HR.out,this];rfl
   go_wp2_with fail
   refine HV.out.mono ?_
   rintro e w' ⟨rfl,hb⟩;have HB:=hid hb;clear hb;rw [HE.out];go_wp2;go_ret;exact ⟨rfl,HB.out⟩
theorem kFair16 {w:World} {m:ModL} {a1 a2:Option Addr} (c1 c2:Nat) (h1:Ints w Any a1 m.input) (h2:LaysAt w a2 m.layers) (hs:∀ l ∈ m.layers,LayLe l):
  Calls Tryz.prog 11 #[.agg #[.slice a1 m.input.length c1,.slice a2 m.layers.length c2]] w fun e w'=>e=.returned (.bool (fairE m []))/\Below w.heap.size w w':=by
 have q1:=h1.len;have q2:=h2.len;obtain ⟨H1,H2,HSh⟩:=hd3 h1 h2 hs;generalize hR:fairE m []=R;unfold fairE at hR;have HRd:=hid hR;have hbA:=blA w (.cells #[.slice a1 m.input.length c1,.slice a2 m.layers.length c2] 25);have hx:=Box2.alloc w (.slice a1 m.input.length c1) (.slice a2 m.layers.length c2) 25;clear h1 h2 hR hs
 go_enter Tryz.func11,Tryz.ntmps11
 go_upto_region 1 with fail
 generalize w.alloc (.cells #[.slice a1 m.input.length c1,.slice a2 m.layers.length c2] 25)=W at *;obtain ⟨HB,HX⟩:=hd2 hbA hx;clear hbA hx;obtain ⟨x0,x1,xf,xlt⟩:=HX.out;have HS:=hid (rSize c1 (H1.out.below HB.out));generalize hsz:sizeL m.input=sz at *;clear hsz
 by_cases e1:m.layers.length<=8
 case neg=>
  have HF:Hid (R=false):=by unfold Hid;rw [<- HRd.out,decide_eq_false e1];rfl
  go_wp2;go_ret;exact ⟨ret_bool HF.out.symm,HB.out⟩
 by_cases e2:sz<=30
 case neg=>
  have HF:Hid (R=false):=by unfold Hid;rw [<- HRd.out,decide_eq_false e2,Bool.false_and,Bool.and_false]
  have t2:decide (30 < sz)=true:=decide_eq_true (by omega)
  go_wp2_with fail
  refine HS.out.mono ?_
  rintro e w' ⟨rfl,rfl⟩;go_wp2;go_ret;exact ⟨ret_bool HF.out.symm,HB.out⟩
 have t2:decide (30 < sz)=false:=decide_eq_false (by omega)
 by_cases e4:m.input.length<=8
 case neg=>
  have HF:Hid (R=false):=by unfold Hid;rw [<- HRd.out,decide_eq_false e4,Bool.false_and,Bool.and_false,Bool.and_false,Bool.and_false]
  go_wp2_with fail
  refine HS.out.mono ?_
  rintro e w' ⟨rfl,rfl⟩;go_wp2;go_ret;exact ⟨ret_bool HF.out.symm,HB.out⟩
 have HRe:Hid ((m.layers.all okLay && littleL [])=R):=by have:=HRd.out;rw [decide_eq_true e1,decide_eq_true e2,decide_eq_true e4] at this;exact this
 go_wp2_with fail
 refine HS.out.mono ?_
 rintro e w' ⟨rfl,rfl⟩;go_wp2;clear x0 x1 xf xlt
 go_loopw [3] (fun i wr=>∃ j:Nat,j<=m.layers.length/\i=.int .i64 (j:Int)/\Hid ((m.layers.take j).all okLay=true)/\Hid (Below W.heap.size W wr)) (fun i _=>m.layers.length - (intOf i).toNat)
 case atStart=>exact ⟨0,Nat.zero_le _,rfl,rfl,Below.refl _ _⟩
 case round=>
  obtain ⟨j,hj,rfl,HA,HW⟩:=hrel;have HBw:=htr HB HW.out;obtain ⟨x0,x1,xf,xlt⟩:=HX.out.below HW.out
  by_cases hlt:j < m.layers.length
  ·obtain ⟨bl,ol,l,ha2,hbl,hl,b1,b2,d1,d2,⟨l0,l1,l2,l3,l4,l5,l6,l7,l8⟩,r1,r2⟩:=(H2.out.below HBw.out).pick hlt;have HT:=hid (allO_take hl);have hmem:=List.mem_of_getElem? hl;have HM:=hid hmem;have hle:=HSh.out l hmem;have p1:=r1.len;have p2:=r2.len;have hal:=blA wr (layO l b1 d1 b2 d2 44);have HAl:=htr HW hal;obtain ⟨HR1,HR2,HBx9⟩:=hd3 (r1.below hal) (r2.below hal) (Box9.alloc wr (.int .i64 l.kind) (.int .i64 l.frm) (.int .i64 l.out) (.int .i64 l.kh) (.int .i64 l.kw) (.int .i64 l.stride) (.int .i64 l.pad) (.slice b1 l.weights.length d1) (.slice b2 l.bias.length d2) 44);have HNo:Hid (okLay l=false->R=false):=fun hf=>by
    have:m.layers.all okLay=false:=by rw [List.all_eq_false];exact ⟨l,HM.out,by simp [hf]⟩
    rw [<- HRe.out,this];rfl
   have HLe:=hid hle;subst ha2;clear hl r1 r2 hal hmem hle
   go_upto_region 7 with fail
   generalize wr.alloc (layO l b1 d1 b2 d2 44)=wj at *;clear l0 l1 l2 l3 l4 l5 l6 l7 l8;obtain ⟨l0,l1,l2,l3,l4,l5,l6,l7,l8,l9⟩:=HBx9.out;have HK1:=hid (kLittle16 d1 HR1.out HLe.out.wts)
   by_cases g1:l.weights.length<=60
   case neg=>
    have HF:Hid (R=false):=HNo.out (by unfold okLay;rw [decide_eq_false g1];rfl);go_wp2;go_ret;exact ⟨ret_bool HF.out.symm,HB.out.trans (HAl.out.mono HB.out.size)⟩
   by_cases g2:l.bias.length<=60
   case neg=>
    have HF:Hid (R=false):=HNo.out (by unfold okLay;rw [decide_eq_false g2,Bool.false_and,Bool.and_false]);go_wp2;go_ret;exact ⟨ret_bool HF.out.symm,HB.out.trans (HAl.out.mono HB.out.size)⟩
   have HOk:Hid (okLay l=(littleL l.weights && littleL l.bias)):=by unfold Hid okLay;rw [decide_eq_true g1,decide_eq_true g2];rfl
   cases hk1:littleL l.weights with
   | false=>
    rw [hk1] at HK1;have HF:Hid (R=false):=HNo.out (by rw [HOk.out,hk1];rfl);clear hk1
    go_wp2_with fail
    refine HK1.out.mono ?_
    rintro e w2 ⟨rfl,hb2⟩;have HB2:=htr HAl hb2;clear hb2;go_wp2;go_ret;exact ⟨ret_bool HF.out.symm,HB.out.trans (HB2.out.mono HB.out.size)⟩
   | true=>
    rw [hk1] at HK1 HOk;rw [Bool.true_and] at HOk;clear hk1
    go_wp2_with fail
    refine HK1.out.mono ?_
    rintro e w2 ⟨rfl,hb2⟩;have HB2:=htr HAl hb2;obtain ⟨HBy,HK2⟩:=hd2 (HBx9.out.below hb2) (kLittle16 d2 (HR2.out.below hb2) HLe.out.bias);clear hb2 l0 l1 l2 l3 l4 l5 l6 l7 l8 l9 HK1;obtain ⟨l0,l1,l2,l3,l4,l5,l6,l7,l8,l9⟩:=HBy.out
    cases hk2:littleL l.bias with
    | false=>
     rw [hk2] at HK2 HOk;have HF:Hid (R=false):=HNo.out HOk.out;clear hk2
     go_wp2_with fail
     refine HK2.out.mono ?_
     rintro e w3 ⟨rfl,hb3⟩;have HB3:=htr HB2 hb3;clear hb3;go_wp2;go_ret;exact ⟨ret_bool HF.out.symm,HB.out.trans (HB3.out.mono HB.out.size)⟩
    | true=>
     rw [hk2] at HK2 HOk;have HA2:Hid ((m.layers.take (j+1)).all okLay=true):=by unfold Hid;rw [HT.out,HA.out,HOk.out];rfl
     clear hk2
     go_wp2_with fail
     refine HK2.out.mono ?_
     rintro e w3 ⟨rfl,hb3⟩;have HB3:=htr HB2 hb3;clear hb3 l0 l1 l2 l3 l4 l5 l6 l7 l8 l9;go_wp2;go_roundw
     case rel=>exact ⟨j+1,hlt,by go_num,HA2.out,HB3.out⟩
     case measure=>simp [intOf];omega
  ·obtain rfl:j=m.layers.length:=by omega
   have HE:Hid (true=R):=by
    have:=HA.out;rw [List.take_length] at this;unfold Hid;rw [<- HRe.out,this];rfl
   go_wp2;go_ret;exact ⟨ret_bool HE.out,HBw.out⟩
theorem ext_form {f g:AffQ} (hf:f.Can) (hg:g.Can) (hc:f.c=g.c) (ht:∀ v,coefT f.ts v=coefT g.ts v):f=g:=by
 have h:f.ts=g.ts:=by
  have h1:=addT_of (k:=0) (f:=f.ts) (g:=[]) (l:=f.ts) hf (fun v=>by show _=_+0 * 0;grind);have h2:=addT_of (k:=0) (f:=f.ts) (g:=[]) (l:=g.ts) hg (fun v=>by rw [ht];show _=_+0 * 0;grind);rw [h1,h2]
 cases f;cases g;simp only at h hc;subst h hc;rfl
theorem ex_sum:addA 1 (addA 1 (numA 0) (scA 1 (varA 0))) (scA (-1) (varA 1))=addA (-1) (varA 0) (varA 1):=by
 refine ext_form (addA_can _ _ _) (addA_can _ _ _) (by decide+kernel) (fun v=>?_)
 show coefT (addT 1 (addT 1 [] (addT 1 [] [(0,1)])) (addT (-1) [] [(1,1)])) v=coefT (addT (-1) [(0,1)] [(1,1)]) v
 rw [addT_coef,addT_coef,addT_coef,addT_coef,addT_coef];show (0+1 * (0+1 * coefT [(0,1)] v))+1 * (0+ -1 * coefT [(1,1)] v)=coefT [(0,1)] v+ -1 * coefT [(1,1)] v
 grind
theorem wq_exD:wq exD=[1, -1]:=by simp [wq,exD,ratOf_ratL]
theorem bq_exD:bq exD=[0]:=by simp [bq,exD,ratOf_ratL]
theorem dense_ex (W B:List Rat) (hW:W=[1, -1]) (hB:B=[0]) (n:Nat) (hn:n=1) (X:List AffQ) (hX:X=[varA 0,varA 1]):
  ((List.range n).map fun r=>sumF (B.getD r 0) (partL W (r * X.length) X.length) 0 (iotaZ X.length) X X.length)=[addA (-1) (varA 0) (varA 1)]:=by
 subst hW;subst hB;subst hn;subst hX;show [addA 1 (addA 1 (numA 0) (scA 1 (varA 0))) (scA (-1) (varA 1))]=_
 rw [ex_sum]
theorem ex_dense (s:List Int) (fr:List AffQ):lowLay 2 [] exD s (varsF 2) fr=([],[addA (-1) (varA 0) (varA 1)]):=by
 unfold lowLay;rw [if_pos (show exD.kind=1 from rfl)];rw [dense_ex _ _ wq_exD bq_exD exD.out.toNat rfl (varsF 2) rfl]
theorem exM_lower:lowerL exM=(⟨2,[addA (-1) (varA 0) (varA 1)],[varA 2]⟩,0):=by
 unfold lowerL;rw [exM_shapes];rw [if_pos rfl,if_neg (by decide+kernel)];have hs:(sizeL exM.input).toNat=2:=by decide+kernel
 rw [hs];have hf:lowFrom 2 exM.input (varsF 2) [] [] [] exM.layers=([addA (-1) (varA 0) (varA 1)],[[addA (-1) (varA 0) (varA 1)],[varA 2]]):=by
  show lowFrom 2 [2] (varsF 2) [] [] [] [exD,exR]=_
  unfold lowFrom;rw [exD_out];rw [show lowLay 2 [] exD (currL [2] []) (currF (varsF 2) []) (fromF (varsF 2) [] exD.frm)=([],[addA (-1) (varA 0) (varA 1)]) from ex_dense _ _];unfold lowFrom;rw [show ([]++[(([1],0):List Int × Int).1])=[[1]] from rfl,exR_out];unfold lowFrom;rfl
 rw [hf];rfl
theorem exM_small:∀ l ∈ exM.layers,SmallL l:=by
 have s1:smallR (ratL 1)=true:=by rw [ratL_one];rfl
 exact (fair_paid (exM_fair 1 1 s1 s1)).sm
end Go.Proofs.YtfgmmghmmfmdgaaGreat
