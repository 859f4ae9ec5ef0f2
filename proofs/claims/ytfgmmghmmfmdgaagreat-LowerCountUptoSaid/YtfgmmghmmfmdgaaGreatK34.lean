/-
  Contracts of the functions that the statement reaches: LinN, LinO, LinP, LinR.
-/
import Derived.Test.YtfgmmghmmfmdgaaGreatK32
import Derived.Test.YtfgmmghmmfmdgaaGreatK33
set_option linter.all false
set_option maxRecDepth 100000
set_option maxHeartbeats 3200000
namespace Go.Proofs.YtfgmmghmmfmdgaaGreat
open Go.RowKit
open Go.Lib (hid)
theorem AllB.setCell {p:Value->Bool} {w:World} {g:Nat} (h:AllB p w g) (o:Nat) (v:Value) (hv:p v=true):AllB p (w.setCell ⟨g,o,none⟩ v) g:=by
 intro o' x e
 by_cases ho:o'=o
 ·subst ho
  cases hc:w.cell? ⟨g,o',none⟩ with
  | none=>
   rw [cell_setCell_none hc] at e;cases e
  | some y=>
   rw [World.cell?_setCell_same _ _ _ hc] at e;cases e;exact hv
 ·rw [World.cell?_setCell_other _ _ _ _ (by intro h;cases h;exact ho rfl)] at e;exact h _ _ e
theorem AllB.alloc {p:Value->Bool} (w:World) (cs:Array Value) (T:Nat) (h:∀ u ∈ cs,p u=true):AllB p (w.alloc (.cells cs T)) w.heap.size:=by
 intro o x e;rw [World.cell?_alloc_at _ _ _ _ rfl] at e;exact h _ (Array.mem_of_getElem? e)
theorem AllB.far {p:Value->Bool} {w:World} {g h:Nat} (hn:AllB p w g) (hne:h ≠ g) (o:Nat) (v:Value):AllB p (w.setCell ⟨h,o,none⟩ v) g:=fun o' x e=>hn o' x ((far2 hne).symm.trans e)
theorem AllB.noI {w:World} {g:Nat} (h:AllB isBS w g):NoInt w g:=fun o x e=>by have:=h o _ e;cases this
theorem TermsAt.setCell {w:World} {a:Option Addr} {L:List (Nat × Rat)} (h:TermsAt w a L) {g:Nat} (hg:AllB isBS w g) (o:Nat) (u:Value):TermsAt (w.setCell ⟨g,o,none⟩ u) a L:=by
 refine ⟨h.len,?_⟩
 rcases h.row with rfl | ⟨b,off,rfl,hb,hc⟩
 ·exact .inl rfl
 ·by_cases hL:L=[]
  ·exact .inl hL
  ·have hp:=List.length_pos_iff.2 hL;have hne:g ≠ b:=by
    rintro rfl;obtain ⟨p0,p1,p2,p3,h0,_,_,_,h4⟩:=hc 0 L[0] (List.getElem?_eq_getElem hp);rw [h4.1] at h0;have:=hg _ _ h0;cases this
   refine .inr ⟨b,off,rfl,by simpa using hb,fun j x hj=>?_⟩
   obtain ⟨p0,p1,p2,p3,h0,h1,h2,h3,h4⟩:=hc j x hj;exact ⟨p0,p1,p2,p3,(far2 hne).trans h0,(far2 hne).trans h1,(far2 hne).trans h2,(far2 hne).trans h3,h4.1,h4.2.setCell hg.noI o u⟩
theorem FormP.setCell {w:World} {p0 p1 p2 p3:Value} {f:AffQ} (h:FormP w p0 p1 p2 p3 f) {g:Nat} (hg:AllB isBS w g) (o:Nat) (u:Value):FormP (w.setCell ⟨g,o,none⟩ u) p0 p1 p2 p3 f:=by
 obtain ⟨⟨a,c,e,hc,ht⟩,hr⟩:=h;exact ⟨⟨a,c,e,hc,ht.setCell hg o u⟩,hr.setCell hg.noI o u⟩
theorem FormP.bs {w:World} {p0 p1 p2 p3:Value} {f:AffQ} (h:FormP w p0 p1 p2 p3 f):isBS p0=true/\isBS p1=true/\isBS p2=true/\isBS p3=true:=by
 obtain ⟨⟨a,c,rfl,_,_⟩,hr⟩:=h;obtain ⟨an,ad,cn,cd,rfl,rfl,rfl,_⟩:=hr.ex;exact ⟨rfl,rfl,rfl,rfl⟩
def store4 (w:World) (g:Nat) (p0 p1 p2 p3:Value):World:=(((w.setCell ⟨g,0,none⟩ p0).setCell ⟨g,1,none⟩ p1).setCell ⟨g,2,none⟩ p2).setCell ⟨g,3,none⟩ p3
theorem AllB.store4 {w:World} {g:Nat} (h:AllB isBS w g) {p0 p1 p2 p3:Value} (hp:isBS p0=true/\isBS p1=true/\isBS p2=true/\isBS p3=true):AllB isBS (store4 w g p0 p1 p2 p3) g:=
 (((h.setCell 0 p0 hp.1).setCell 1 p1 hp.2.1).setCell 2 p2 hp.2.2.1).setCell 3 p3 hp.2.2.2
theorem FormP.store4 {w:World} {q0 q1 q2 q3:Value} {f:AffQ} (h:FormP w q0 q1 q2 q3 f) {g:Nat} (hg:AllB isBS w g) {p0 p1 p2 p3:Value} (hp:isBS p0=true/\isBS p1=true/\isBS p2=true/\isBS p3=true):FormP (store4 w g p0 p1 p2 p3) q0 q1 q2 q3 f:=
 (((h.setCell hg 0 p0).setCell (hg.setCell 0 p0 hp.1) 1 p1).setCell ((hg.setCell 0 p0 hp.1).setCell 1 p1 hp.2.1) 2 p2).setCell (((hg.setCell 0 p0 hp.1).setCell 1 p1 hp.2.1).setCell 2 p2 hp.2.2.1) 3 p3
theorem FormV.store4 {w:World} {v:Value} {f:AffQ} (h:FormV w v f) {g:Nat} (hg:AllB isBS w g) {p0 p1 p2 p3:Value} (hp:isBS p0=true/\isBS p1=true/\isBS p2=true/\isBS p3=true):FormV (Go.Proofs.YtfgmmghmmfmdgaaGreat.store4 w g p0 p1 p2 p3) v f:=by
 obtain ⟨q0,q1,q2,q3,e,k⟩:=h.ex;exact ⟨q0,q1,q2,q3,e,k.store4 hg hp⟩
theorem FormV.ret {w W:World} {g:Nat} {p0 p1 p2 p3:Value} {f:AffQ} (h:FormV W (.agg #[p0,p1,p2,p3]) f) (hg:AllB isBS W g) (hb:Below w.heap.size w W) (hge:w.heap.size<=g):
  RetAf w f (.returned (.agg #[p0,p1,p2,p3])) ((((W.setCell ⟨g,0,none⟩ p0).setCell ⟨g,1,none⟩ p1).setCell ⟨g,2,none⟩ p2).setCell ⟨g,3,none⟩ p3):=by
 have hp:isBS p0=true/\isBS p1=true/\isBS p2=true/\isBS p3=true:=by
  obtain ⟨q0,q1,q2,q3,e,k⟩:=h.ex;cases e;exact k.bs
 exact ⟨_,rfl,h.store4 hg hp,below_store4 hb hge _ _ _ _⟩
structure ABox (w:World) (g:Nat) (p0 p1 p2 p3:Value) (f:AffQ):Prop where
 bx:Box4 w g p0 p1 p2 p3
 al:AllB isBS w g
 fm:FormP w p0 p1 p2 p3 f
theorem ABox.below {w w':World} {g:Nat} {p0 p1 p2 p3:Value} {f:AffQ} (h:ABox w g p0 p1 p2 p3 f) (hb:Below w.heap.size w w'):ABox w' g p0 p1 p2 p3 f:=
 ⟨h.bx.below hb,h.al.below hb h.bx.lt,formK.below h.fm hb⟩
theorem FormP.val {w:World} {p0 p1 p2 p3:Value} {f:AffQ} (h:FormP w p0 p1 p2 p3 f):FormV w (.agg #[p0,p1,p2,p3]) f:=⟨_,_,_,_,rfl,h⟩
theorem FormV.fp {w:World} {p0 p1 p2 p3:Value} {f:AffQ} (h:FormV w (.agg #[p0,p1,p2,p3]) f):FormP w p0 p1 p2 p3 f:=by
 obtain ⟨q0,q1,q2,q3,e,k⟩:=h.ex;cases e;exact k
theorem ABox.set {w:World} {g:Nat} {p0 p1 p2 p3 q0 q1 q2 q3:Value} {f k:AffQ} (h:ABox w g p0 p1 p2 p3 f) (hk:FormP w q0 q1 q2 q3 k):
  ABox ((((w.setCell ⟨g,0,none⟩ q0).setCell ⟨g,1,none⟩ q1).setCell ⟨g,2,none⟩ q2).setCell ⟨g,3,none⟩ q3) g q0 q1 q2 q3 k:=
 ⟨h.bx.store _ _ _ _,h.al.store4 hk.bs,hk.store4 h.al hk.bs⟩
theorem ABox.alloc {w:World} {p0 p1 p2 p3:Value} {f:AffQ} (h:FormP w p0 p1 p2 p3 f) (T:Nat):ABox (w.alloc (.cells #[p0,p1,p2,p3] T)) w.heap.size p0 p1 p2 p3 f:=
 ⟨Box4.alloc w _ _ _ _ T,AllB.alloc w _ T (by intro u hu;obtain ⟨h0,h1,h2,h3⟩:=h.bs;simp at hu;rcases hu with rfl | rfl | rfl | rfl <;> assumption),formK.below h ((Below.refl _ _).alloc (Nat.le_refl _) _)⟩
theorem zer_form (w:World):FormP w (.slice none 0 0) (.bool false) (.slice none 0 0) (.slice none 0 0) zerA:=by
 have e:ratL 0=⟨false,[],[]⟩:=by decide+kernel
 refine ⟨⟨none,0,rfl,Nat.le_refl _,Nat.zero_le _,.inl rfl⟩,none,none,0,0,?_,?_,?_,?_,?_,?_,?_⟩
 ·show Value.bool false=.bool (ratL 0).neg;rw [e]
 ·show Value.slice none 0 0=.slice none (ratL 0).num.length 0;rw [e];rfl
 ·show Value.slice none 0 0=.slice none (ratL 0).den.length 0;rw [e];rfl
 ·show (ratL 0).num.length<=0;rw [e];exact Nat.le_refl _
 ·show (ratL 0).den.length<=0;rw [e];exact Nat.le_refl _
 ·show U32s w none (ratL 0).num;rw [e];exact U32s.nil _ _
 ·show U32s w none (ratL 0).den;rw [e];exact U32s.nil _ _
theorem mrg_add {D B C N:Nat} {f g:AffQ} (hf:BdF D B N f) (hg:BdF D C N g) (hP:Pay D (B+C)) (hN:N<=500000):MrgLe 1 f g:=by
 have h1:=hP.le (Nat.le_refl _) (Nat.le_add_right B C);have h2:=hP.le (Nat.le_refl _) (Nat.le_add_left C B);have hD:=hf.pos
 refine ⟨?_,h1.bd hf.c,h2.bd hg.c,?_,fun t ht=>h1.bd (hf.mem ht),fun t ht=>h2.bd (hg.mem ht),fun t ht=>?_,fun t ht u hu=>?_,by have:=hf.few;have:=hg.few;omega⟩
 ·exact (Bd.one (D:=1) (B:=1) (by omega) (by omega)).small (k:=1) (M:=1) (N:=1) (by omega) (by omega) (by decide) |>.mono (by omega)
 ·rw [Rat.mul_one];exact h2.bd hg.c
 ·rw [Rat.mul_one];exact h2.bd (hg.mem ht)
 ·rw [Rat.mul_one];exact hP.bd ((hf.mem ht).add (hg.mem hu))
theorem mul_neg_one (a:Rat):a * -1= -a:=by grind
theorem mrg_sub {D B C N:Nat} {f g:AffQ} (hf:BdF D B N f) (hg:BdF D C N g) (hP:Pay D (B+C)) (hN:N<=500000):MrgLe (-1) f g:=by
 have h1:=hP.le (Nat.le_refl _) (Nat.le_add_right B C);have h2:=hP.le (Nat.le_refl _) (Nat.le_add_left C B);have hD:=hf.pos
 refine ⟨?_,h1.bd hf.c,h2.bd hg.c,?_,fun t ht=>h1.bd (hf.mem ht),fun t ht=>h2.bd (hg.mem ht),fun t ht=>?_,fun t ht u hu=>?_,by have:=hf.few;have:=hg.few;omega⟩
 ·exact (Bd.one (D:=1) (B:=1) (by omega) (by omega)).neg.small (k:=1) (M:=1) (N:=1) (by omega) (by omega) (by decide) |>.mono (by omega)
 ·rw [mul_neg_one];exact h2.bd hg.c.neg
 ·rw [mul_neg_one];exact h2.bd (hg.mem ht).neg
 ·rw [mul_neg_one];exact hP.bd ((hf.mem ht).add (hg.mem hu).neg)
theorem mrg_sc {D B W C N:Nat} {k:Rat} {f:AffQ} (hk:Bd W C k) (hf:BdF D B N f) (hP:Pay (W * D) (C * B+C+B)) (hN:N<=500000):MrgLe k zerA f:=by
 have hD:=hf.pos;have hW:=hk.pos;have z:∀ j,RatLe (ratL 0) j:=fun j=>by rw [show ratL 0=⟨false,[],[]⟩ by decide+kernel];exact ⟨Nat.zero_le _,Nat.zero_le _⟩
 have h1:RatLe (ratL k) 1048575:=(hP.le (Nat.le_refl _) (Nat.le_trans (Nat.le_add_left C (C * B)) (Nat.le_add_right _ B))).bd (hk.bump hD);have h2:∀ q,Bd D B q->RatLe (ratL q) 1048575:=fun q hq=>by
  have:=hq.bump hW;rw [Nat.mul_comm] at this;exact (hP.le (Nat.le_refl _) (Nat.le_add_left B _)).bd this
 have h3:∀ q,Bd D B q->RatLe (ratL (q * k)) 1048575:=fun q hq=>by
  rw [Rat.mul_comm];exact (hP.le (Nat.le_refl _) (by omega)).bd (hk.mul hq)
 refine ⟨h1,z _,h2 _ hf.c,h3 _ hf.c,fun t ht=>(by cases ht),fun t ht=>h2 _ (hf.mem ht),fun t ht=>h3 _ (hf.mem ht),fun t ht=>(by cases ht),by have:=hf.few;show 0+f.ts.length<=_;omega⟩
structure TwoF (w W:World) (f0 f1 f2 f3 g0 g1 g2 g3:Value):Prop where
 fb:Box4 W w.heap.size f0 f1 f2 f3
 gb:Box4 W (w.heap.size+1) g0 g1 g2 g3
 rb:Box4 W (w.heap.size+1+1) (.slice none 0 0) (.bool false) (.slice none 0 0) (.slice none 0 0)
 nr:AllB isBS W (w.heap.size+1+1)
 bl:Below w.heap.size w W
theorem TwoF.below {w W W':World} {f0 f1 f2 f3 g0 g1 g2 g3:Value} (h:TwoF w W f0 f1 f2 f3 g0 g1 g2 g3) (hb:Below W.heap.size W W'):TwoF w W' f0 f1 f2 f3 g0 g1 g2 g3:=
 ⟨h.fb.below hb,h.gb.below hb,h.rb.below hb,h.nr.below hb h.rb.lt,h.bl.trans (hb.mono h.bl.size)⟩
theorem TwoF.mk' (w:World) (f0 f1 f2 f3 g0 g1 g2 g3:Value) (T:TypeId):
  TwoF w (((w.alloc (.cells #[f0,f1,f2,f3] T)).alloc (.cells #[g0,g1,g2,g3] T)).alloc (.cells #[.slice none 0 0,.bool false,.slice none 0 0,.slice none 0 0] T)) f0 f1 f2 f3 g0 g1 g2 g3:=by
 have a1:=Box4.alloc w f0 f1 f2 f3 T;have b1:=blA w (.cells #[f0,f1,f2,f3] T);have s1:(w.alloc (.cells #[f0,f1,f2,f3] T)).heap.size=w.heap.size+1:=by simp
 generalize w.alloc (.cells #[f0,f1,f2,f3] T)=W1 at *;have a2:=Box4.alloc W1 g0 g1 g2 g3 T;have b2:=blA W1 (.cells #[g0,g1,g2,g3] T);have s2:(W1.alloc (.cells #[g0,g1,g2,g3] T)).heap.size=w.heap.size+1+1:=by simp;omega
 generalize W1.alloc (.cells #[g0,g1,g2,g3] T)=W2 at *;have a4:=Box4.alloc W2 (.slice none 0 0) (.bool false) (.slice none 0 0) (.slice none 0 0) T;have n4:=AllB.alloc (p:=isBS) W2 #[.slice none 0 0,.bool false,.slice none 0 0,.slice none 0 0] T (by intro u hu;simp at hu;rcases hu with rfl | rfl | rfl <;> rfl);have b4:=blA W2 (.cells #[.slice none 0 0,.bool false,.slice none 0 0,.slice none 0 0] T);generalize W2.alloc (.cells #[.slice none 0 0,.bool false,.slice none 0 0,.slice none 0 0] T)=W4 at *;rw [s1] at a2;rw [s2] at a4 n4;have b24:=b2.trans (b4.mono b2.size);exact ⟨a1.below b24,a2.below b4,a4,n4,b1.trans (b24.mono b1.size)⟩
theorem lAdd {w:World} {vf vg:Value} {f g:AffQ} {D B C N:Nat} (hf:FormV w vf f) (hg:FormV w vg g) (bf:BdF D B N f) (bg:BdF D C N g) (hP:Pay D (B+C)) (hN:N<=500000):
  Calls Tryz.prog 60 #[vf,vg] w (RetAf w (addA (1) f g)):=by
 obtain ⟨aF,cF,fan,fad,fcn,fcd,rfl,hcF,htF,l1,l2,u1,u2⟩:=hf.parts;obtain ⟨aG,cG,gan,gad,gcn,gcd,rfl,hcG,htG,m1,m2,v1,v2⟩:=hg.parts;obtain ⟨HF,HG,HLe,HcF,HcG,HT⟩:=hd6 hf hg (mrg_add bf bg hP hN) bf.can bg.can (TwoF.mk' w (.slice aF f.ts.length cF) (.bool (ratL f.c).neg) (.slice fan (ratL f.c).num.length fcn) (.slice fad (ratL f.c).den.length fcd) (.slice aG g.ts.length cG) (.bool (ratL g.c).neg) (.slice gan (ratL g.c).num.length gcn) (.slice gad (ratL g.c).den.length gcd) 53);clear hf hg bf bg hP htF htG u1 u2 v1 v2
 go_enter Tryz.func60,Tryz.ntmps60
 go_upto_region 1 with fail
 generalize ((w.alloc (.cells #[.slice aF f.ts.length cF,.bool (ratL f.c).neg,.slice fan (ratL f.c).num.length fcn,.slice fad (ratL f.c).den.length fcd] 53)).alloc (.cells #[.slice aG g.ts.length cG,.bool (ratL g.c).neg,.slice gan (ratL g.c).num.length gcn,.slice gad (ratL g.c).den.length gcd] 53)).alloc (.cells #[.slice none 0 0,.bool false,.slice none 0 0,.slice none 0 0] 53)=w1 at *;have HOf:Hid (∀ X,Calls Tryz.prog 54 #[.int .i64 (1)] X (RetR X (ratL (1)))):=fun X=>rOf X (1) (by decide) (by decide)
 have HMg:Hid (∀ X,Below w1.heap.size w1 X->∀ z,RatV X z (ratL (1))->Calls Tryz.prog 93 #[.agg #[.slice aF f.ts.length cF,.bool (ratL f.c).neg,.slice fan (ratL f.c).num.length fcn,.slice fad (ratL f.c).den.length fcd],.agg #[.slice aG g.ts.length cG,.bool (ratL g.c).neg,.slice gan (ratL g.c).num.length gcn,.slice gad (ratL g.c).den.length gcd],z] X (RetAf X (addA (1) f g))):=fun X hb z hz=>by
  have hb2:=HT.out.bl.trans (hb.mono HT.out.bl.size);exact lMerge (HF.out.below hb2) (HG.out.below hb2) hz HcF.out HcG.out HLe.out
 refine wp_region_slots_tail 4 (by kernel_rfl) (by kernel_rfl) (by kernel_rfl) (by kernel_rfl) (by decide) (From w1.heap.size w1) (fun w w'=>Below w.heap.size w w') (GQ [.val (.agg #[.slice aF f.ts.length cF,.bool (ratL f.c).neg,.slice fan (ratL f.c).num.length fcn,.slice fad (ratL f.c).den.length fcd]),.val (.agg #[.slice aG g.ts.length cG,.bool (ratL g.c).neg,.slice gan (ratL g.c).num.length gcn,.slice gad (ratL g.c).den.length gcd]),.rat (1),.frm (addA (1) f g)]) (fun i v w w' h hb=>GQ_below h hb) (From.start (Nat.le_refl _)) ?_ ?_
 ·intro ops;simp only [List.take_succ_cons,List.take_zero,Shows]
  refine ⟨?v0,?v1,?_,?_,trivial⟩
  all_goals (intro y X hR hL;have hB:=hR.base;have HT2:=hid (HT.out.below hR.be);obtain ⟨f0,f1,f2,f3,_,ft⟩:=HT2.out.fb;obtain ⟨g0,g1,g2,g3,_,gt⟩:=HT2.out.gb;simp only [Laid,Region.binds,forall_const,Bool.false_eq_true,false_implies,GQ,List.getElem?_cons_zero,List.getElem?_cons_succ] at hL;simp [fillFrom,Act.put])
  case v0|v1=>
   try simp only [hL]
   clear hL;have HR:=hid hR;clear hR;go_wp2;exact ⟨_,rfl,HR.out,Below.refl _ _,rfl⟩
  ·try simp only [hL]
   clear hL;have HR:=hid hR;clear hR;have HCt:=hid (HOf.out X)
   go_wp2_with fail
   refine HCt.out.mono ?_
   rintro e w1 ⟨v1,rfl,kv,kb⟩;obtain ⟨KV,KB⟩:=hd2 kv kb;clear kv kb HCt;go_wp2;exact ⟨_,rfl,⟨Nat.le_trans HR.out.base KB.out.size,HR.out.be.trans (KB.out.mono HR.out.base)⟩,KB.out,KV.out⟩
  ·generalize y 0=y0 at hL ⊢;generalize y 1=y1 at hL ⊢;generalize y 2=y2 at hL ⊢;obtain ⟨rfl,rfl,H2,_,_⟩:=hL;obtain ⟨K2,HR⟩:=hd2 H2 hR;clear hR H2;have HCt:=hid (HMg.out X HR.out.be _ K2.out)
   go_wp2_with fail
   refine HCt.out.mono ?_
   rintro e w1 ⟨v1,rfl,kv,kb⟩;obtain ⟨KV,KB⟩:=hd2 kv kb;clear kv kb HCt;go_wp2;exact ⟨_,rfl,⟨Nat.le_trans HR.out.base KB.out.size,HR.out.be.trans (KB.out.mono HR.out.base)⟩,KB.out,KV.out⟩
 ·intro ops y X hR hL;have hB:=hR.base;have J3:=hL.2;simp only [GQ,List.getElem?_cons_zero,List.getElem?_cons_succ] at J3;have HT2:=hid (HT.out.below hR.be);obtain ⟨f0,f1,f2,f3,_,ft⟩:=HT2.out.fb;obtain ⟨g0,g1,g2,g3,_,gt⟩:=HT2.out.gb;clear hL;simp only [List.take_succ_cons,List.take_zero,List.drop_succ_cons,List.drop_zero];simp [fillFrom,Act.put];generalize y 3=y3 at J3 ⊢;have HR:=hid hR;clear hR;have HV:=hid J3;obtain ⟨a5,c5,n5,d5,e5,g5,rfl,_⟩:=J3.parts;clear J3 f0 f1 f2 f3 ft g0 g1 g2 g3 gt;obtain ⟨r0,r1,r2,r3,rf,rlt⟩:=HT2.out.rb;have HO:=hid (HV.out.ret HT2.out.nr HT2.out.bl (by omega));generalize addA (1) f g=R at *;clear HV;go_wp2;exact bodyPost_ret (by simp [results,Tryz.results60,go_sem,r0,r1,r2,r3]) rfl HO.out
theorem lSub {w:World} {vf vg:Value} {f g:AffQ} {D B C N:Nat} (hf:FormV w vf f) (hg:FormV w vg g) (bf:BdF D B N f) (bg:BdF D C N g) (hP:Pay D (B+C)) (hN:N<=500000):
  Calls Tryz.prog 91 #[vf,vg] w (RetAf w (addA (-1) f g)):=by
 obtain ⟨aF,cF,fan,fad,fcn,fcd,rfl,hcF,htF,l1,l2,u1,u2⟩:=hf.parts;obtain ⟨aG,cG,gan,gad,gcn,gcd,rfl,hcG,htG,m1,m2,v1,v2⟩:=hg.parts;obtain ⟨HF,HG,HLe,HcF,HcG,HT⟩:=hd6 hf hg (mrg_sub bf bg hP hN) bf.can bg.can (TwoF.mk' w (.slice aF f.ts.length cF) (.bool (ratL f.c).neg) (.slice fan (ratL f.c).num.length fcn) (.slice fad (ratL f.c).den.length fcd) (.slice aG g.ts.length cG) (.bool (ratL g.c).neg) (.slice gan (ratL g.c).num.length gcn) (.slice gad (ratL g.c).den.length gcd) 53);clear hf hg bf bg hP htF htG u1 u2 v1 v2
 go_enter Tryz.func91,Tryz.ntmps91
 go_upto_region 1 with fail
 generalize ((w.alloc (.cells #[.slice aF f.ts.length cF,.bool (ratL f.c).neg,.slice fan (ratL f.c).num.length fcn,.slice fad (ratL f.c).den.length fcd] 53)).alloc (.cells #[.slice aG g.ts.length cG,.bool (ratL g.c).neg,.slice gan (ratL g.c).num.length gcn,.slice gad (ratL g.c).den.length gcd] 53)).alloc (.cells #[.slice none 0 0,.bool false,.slice none 0 0,.slice none 0 0] 53)=w1 at *;have HOf:Hid (∀ X,Calls Tryz.prog 54 #[.int .i64 (-1)] X (RetR X (ratL (-1)))):=fun X=>rOf X (-1) (by decide) (by decide)
 have HMg:Hid (∀ X,Below w1.heap.size w1 X->∀ z,RatV X z (ratL (-1))->Calls Tryz.prog 93 #[.agg #[.slice aF f.ts.length cF,.bool (ratL f.c).neg,.slice fan (ratL f.c).num.length fcn,.slice fad (ratL f.c).den.length fcd],.agg #[.slice aG g.ts.length cG,.bool (ratL g.c).neg,.slice gan (ratL g.c).num.length gcn,.slice gad (ratL g.c).den.length gcd],z] X (RetAf X (addA (-1) f g))):=fun X hb z hz=>by
  have hb2:=HT.out.bl.trans (hb.mono HT.out.bl.size);exact lMerge (HF.out.below hb2) (HG.out.below hb2) hz HcF.out HcG.out HLe.out
 refine wp_region_slots_tail 4 (by kernel_rfl) (by kernel_rfl) (by kernel_rfl) (by kernel_rfl) (by decide) (From w1.heap.size w1) (fun w w'=>Below w.heap.size w w') (GQ [.val (.agg #[.slice aF f.ts.length cF,.bool (ratL f.c).neg,.slice fan (ratL f.c).num.length fcn,.slice fad (ratL f.c).den.length fcd]),.val (.agg #[.slice aG g.ts.length cG,.bool (ratL g.c).neg,.slice gan (ratL g.c).num.length gcn,.slice gad (ratL g.c).den.length gcd]),.rat (-1),.frm (addA (-1) f g)]) (fun i v w w' h hb=>GQ_below h hb) (From.start (Nat.le_refl _)) ?_ ?_
 ·intro ops;simp only [List.take_succ_cons,List.take_zero,Shows]
  refine ⟨?v0,?v1,?_,?_,trivial⟩
  all_goals (intro y X hR hL;have hB:=hR.base;have HT2:=hid (HT.out.below hR.be);obtain ⟨f0,f1,f2,f3,_,ft⟩:=HT2.out.fb;obtain ⟨g0,g1,g2,g3,_,gt⟩:=HT2.out.gb;simp only [Laid,Region.binds,forall_const,Bool.false_eq_true,false_implies,GQ,List.getElem?_cons_zero,List.getElem?_cons_succ] at hL;simp [fillFrom,Act.put])
  case v0|v1=>
   try simp only [hL]
   clear hL;have HR:=hid hR;clear hR;go_wp2;exact ⟨_,rfl,HR.out,Below.refl _ _,rfl⟩
  ·try simp only [hL]
   clear hL;have HR:=hid hR;clear hR;have HCt:=hid (HOf.out X)
   go_wp2_with fail
   refine HCt.out.mono ?_
   rintro e w1 ⟨v1,rfl,kv,kb⟩;obtain ⟨KV,KB⟩:=hd2 kv kb;clear kv kb HCt;go_wp2;exact ⟨_,rfl,⟨Nat.le_trans HR.out.base KB.out.size,HR.out.be.trans (KB.out.mono HR.out.base)⟩,KB.out,KV.out⟩
  ·generalize y 0=y0 at hL ⊢;generalize y 1=y1 at hL ⊢;generalize y 2=y2 at hL ⊢;obtain ⟨rfl,rfl,H2,_,_⟩:=hL;obtain ⟨K2,HR⟩:=hd2 H2 hR;clear hR H2;have HCt:=hid (HMg.out X HR.out.be _ K2.out)
   go_wp2_with fail
   refine HCt.out.mono ?_
   rintro e w1 ⟨v1,rfl,kv,kb⟩;obtain ⟨KV,KB⟩:=hd2 kv kb;clear kv kb HCt;go_wp2;exact ⟨_,rfl,⟨Nat.le_trans HR.out.base KB.out.size,HR.out.be.trans (KB.out.mono HR.out.base)⟩,KB.out,KV.out⟩
 ·intro ops y X hR hL;have hB:=hR.base;have J3:=hL.2;simp only [GQ,List.getElem?_cons_zero,List.getElem?_cons_succ] at J3;have HT2:=hid (HT.out.below hR.be);obtain ⟨f0,f1,f2,f3,_,ft⟩:=HT2.out.fb;obtain ⟨g0,g1,g2,g3,_,gt⟩:=HT2.out.gb;clear hL;simp only [List.take_succ_cons,List.take_zero,List.drop_succ_cons,List.drop_zero];simp [fillFrom,Act.put];generalize y 3=y3 at J3 ⊢;have HR:=hid hR;clear hR;have HV:=hid J3;obtain ⟨a5,c5,n5,d5,e5,g5,rfl,_⟩:=J3.parts;clear J3 f0 f1 f2 f3 ft g0 g1 g2 g3 gt;obtain ⟨r0,r1,r2,r3,rf,rlt⟩:=HT2.out.rb;have HO:=hid (HV.out.ret HT2.out.nr HT2.out.bl (by omega));generalize addA (-1) f g=R at *;clear HV;go_wp2;exact bodyPost_ret (by simp [results,Tryz.results91,go_sem,r0,r1,r2,r3]) rfl HO.out
theorem lScale {w:World} {vf vk:Value} {f:AffQ} {k:Rat} {D B W C N:Nat} (hf:FormV w vf f) (hk:RatV w vk (ratL k)) (bk:Bd W C k) (bf:BdF D B N f) (hP:Pay (W * D) (C * B+C+B)) (hN:N<=500000):
  Calls Tryz.prog 89 #[vf,vk] w (RetAf w (scA k f)):=by
 obtain ⟨aF,cF,fan,fad,fcn,fcd,rfl,hcF,htF,l1,l2,u1,u2⟩:=hf.parts;obtain ⟨kn,kd,kcn,kcd,rfl,n1,n2,x1,x2⟩:=hk.ex;obtain ⟨HF,HK,HLe,HC⟩:=hd4 hf hk (mrg_sc bk bf hP hN) bf.can;have x1:=Box4.alloc w (.slice aF f.ts.length cF) (.bool (ratL f.c).neg) (.slice fan (ratL f.c).num.length fcn) (.slice fad (ratL f.c).den.length fcd) 53;have b1:=blA w (.cells #[.slice aF f.ts.length cF,.bool (ratL f.c).neg,.slice fan (ratL f.c).num.length fcn,.slice fad (ratL f.c).den.length fcd] 53);have s1:(w.alloc (.cells #[.slice aF f.ts.length cF,.bool (ratL f.c).neg,.slice fan (ratL f.c).num.length fcn,.slice fad (ratL f.c).den.length fcd] 53)).heap.size=w.heap.size+1:=by simp
 obtain ⟨W1,hW1⟩:∃ W1,W1=w.alloc (.cells #[.slice aF f.ts.length cF,.bool (ratL f.c).neg,.slice fan (ratL f.c).num.length fcn,.slice fad (ratL f.c).den.length fcd] 53):=⟨_,rfl⟩
 rw [<- hW1] at x1 b1 s1;have x2:=Box3.alloc W1 (.bool (ratL k).neg) (.slice kn (ratL k).num.length kcn) (.slice kd (ratL k).den.length kcd) 51;have b2:=blA W1 (.cells #[.bool (ratL k).neg,.slice kn (ratL k).num.length kcn,.slice kd (ratL k).den.length kcd] 51);have s2:(W1.alloc (.cells #[.bool (ratL k).neg,.slice kn (ratL k).num.length kcn,.slice kd (ratL k).den.length kcd] 51)).heap.size=w.heap.size+1+1:=by simp;omega
 obtain ⟨W2,hW2⟩:∃ W2,W2=W1.alloc (.cells #[.bool (ratL k).neg,.slice kn (ratL k).num.length kcn,.slice kd (ratL k).den.length kcd] 51):=⟨_,rfl⟩
 rw [<- hW2] at x2 b2 s2;have x3:=ABox.alloc (zer_form W2) 53;have b3:=blA W2 (.cells #[.slice none 0 0,.bool false,.slice none 0 0,.slice none 0 0] 53);obtain ⟨W3,hW3⟩:∃ W3,W3=W2.alloc (.cells #[.slice none 0 0,.bool false,.slice none 0 0,.slice none 0 0] 53):=⟨_,rfl⟩
 rw [<- hW3] at x3 b3;rw [s2] at x3;rw [s1] at x2;have b23:=b2.trans (b3.mono b2.size);obtain ⟨HX1,HX2,HX3,HB,HWs⟩:=hd5 (x1.below b23) (x2.below b3) x3 (b1.trans (b23.mono b1.size)) hW3;rw [hW2,hW1] at HWs;clear x1 x2 x3 b1 b2 b3 b23 s1 s2 hW1 hW2 hW3 hf hk u1 u2 htF bk bf hP
 go_enter Tryz.func89,Tryz.ntmps89
 go_upto_region 1 with fail
 rw [<- HWs.out];clear HWs;obtain ⟨f0,f1,f2,f3,ff,flt⟩:=HX1.out;obtain ⟨k0,k1,k2,kf,klt⟩:=HX2.out;have HM:=hid (lMerge (zer_form W3).val (HF.out.below HB.out) (HK.out.below HB.out) zerA_can HC.out HLe.out)
 go_wp2_with fail
 refine HM.out.mono ?_
 rintro e w5 ⟨v5,rfl,hv,hb⟩;obtain ⟨HV,HR⟩:=hd2 hv (HX3.out.below hb);have HB5:=htr HB hb;obtain ⟨a5,c5,n5,d5,e5,g5,rfl,_⟩:=hv.parts;clear hv hb HM f0 f1 f2 f3 ff flt k0 k1 k2 kf klt;obtain ⟨r0,r1,r2,r3,rf,rlt⟩:=HR.out.bx;have HO:=hid (show RetAf w (scA k f) _ _ from HV.out.ret HR.out.al HB5.out (by omega));have hs:scA k f=addA k zerA f:=rfl;rw [<- hs];generalize scA k f=R at *;clear HV;go_wp2;exact bodyPost_ret (by simp [results,Tryz.results89,go_sem,r0,r1,r2,r3]) rfl HO.out
theorem var_form {w:World} {v:Nat} {b an ad:Option Addr} {cn cd:Nat} {B:Nat} (hb:b=some ⟨B,0,none⟩) (hB:B < w.heap.size) (h0:w.cell? ⟨B,0,none⟩=some (.int .i64 (v:Int))) {p1 p2 p3:Value} (h1:w.cell? ⟨B,1,none⟩=some p1) (h2:w.cell? ⟨B,2,none⟩=some p2) (h3:w.cell? ⟨B,3,none⟩=some p3) (hr:RatC w p1 p2 p3 1):
  FormP w (.slice b 1 1) (.bool false) (.slice none 0 0) (.slice none 0 0) (varA v):=by
 obtain ⟨_,k⟩:=zer_form w
 refine ⟨⟨b,1,rfl,Nat.le_refl _,(by show (1:Nat)<=_;omega),.inr ⟨B,0,hb,hB,fun j x hj=>?_⟩⟩,k⟩
 obtain rfl:j=0:=by have:=(List.getElem?_eq_some_iff.1 hj).1;simp [varA] at this;omega
 obtain rfl:(v,(1:Rat))=x:=by simpa [varA] using hj
 exact ⟨_,p1,p2,p3,h0,h1,h2,h3,rfl,hr⟩
theorem store4_alloc {w:World} {g:Nat} (hg:g < w.heap.size) (o:Obj) (p0 p1 p2 p3:Value):
  (((((w.alloc o).setCell ⟨g,0,none⟩ p0).setCell ⟨g,1,none⟩ p1).setCell ⟨g,2,none⟩ p2).setCell ⟨g,3,none⟩ p3)=((((w.setCell ⟨g,0,none⟩ p0).setCell ⟨g,1,none⟩ p1).setCell ⟨g,2,none⟩ p2).setCell ⟨g,3,none⟩ p3).alloc o:=by
 rw [World.setCell_alloc_past _ _ _ _ hg,World.setCell_alloc_past _ _ _ _ (by simpa using hg),World.setCell_alloc_past _ _ _ _ (by simpa using hg),World.setCell_alloc_past _ _ _ _ (by simpa using hg)]
theorem lVariable (w:World) (v:Nat):Calls Tryz.prog 34 #[.int .i64 (v:Int)] w (RetAf w (varA v)):=by
 obtain ⟨HX,HB⟩:=hd2 (ABox.alloc (zer_form w) 53) ((Below.refl w.heap.size w).alloc (Nat.le_refl _) (.cells #[.slice none 0 0,.bool false,.slice none 0 0,.slice none 0 0] 53))
 go_enter Tryz.func34,Tryz.ntmps34
 go_upto_region 1 with fail
 generalize w.alloc (.cells #[.slice none 0 0,.bool false,.slice none 0 0,.slice none 0 0] 53)=W at *;have HO:=hid (rOf W 1 (by decide) (by decide))
 go_wp2_with fail
 refine HO.out.mono ?_
 rintro e w1 ⟨v1,rfl,hv,hb⟩;have hv':RatV w1 v1 (ratL 1):=hv;obtain ⟨p1,p2,p3,rfl,hrc⟩:=RatC.of hv';obtain ⟨HRC,HX1⟩:=hd2 hrc (HX.out.below hb);have HB1:=htr HB hb;obtain ⟨an,ad,cn,cd,rfl,rfl,rfl,l1,l2,u1,u2⟩:=hrc.ex;clear hv hv' hb HO u1 u2 hrc;obtain ⟨HX2,HB2,HF2⟩:=hd3 (HX1.out.below ((Below.refl w1.heap.size w1).alloc (Nat.le_refl _) (.cells #[.int .i64 (v:Int),.bool (ratL 1).neg,.slice an (ratL 1).num.length cn,.slice ad (ratL 1).den.length cd] 84))) (HB1.out.trans (((Below.refl w1.heap.size w1).alloc (Nat.le_refl _) (.cells #[.int .i64 (v:Int),.bool (ratL 1).neg,.slice an (ratL 1).num.length cn,.slice ad (ratL 1).den.length cd] 84)).mono HB1.out.size)) (var_form (v:=v) (an:=an) (ad:=ad) (cn:=cn) (cd:=cd) (w:=w1.alloc (.cells #[.int .i64 (v:Int),.bool (ratL 1).neg,.slice an (ratL 1).num.length cn,.slice ad (ratL 1).den.length cd] 84)) (b:=some ⟨w1.heap.size,0,none⟩) rfl (by simp) (by rw [World.cell?_alloc_at _ _ _ _ rfl];rfl) (by rw [World.cell?_alloc_at _ _ _ _ rfl];rfl) (by rw [World.cell?_alloc_at _ _ _ _ rfl];rfl) (by rw [World.cell?_alloc_at _ _ _ _ rfl];rfl) (HRC.out.below ((Below.refl _ _).alloc (Nat.le_refl _) _)));obtain ⟨w2,hw2⟩:∃ w2,w2=w1.alloc (.cells #[.int .i64 (v:Int),.bool (ratL 1).neg,.slice an (ratL 1).num.length cn,.slice ad (ratL 1).den.length cd] 84):=⟨_,rfl⟩
 rw [<- hw2] at HX2 HB2 HF2;obtain ⟨r0,r1,r2,r3,rf,rlt⟩:=HX2.out.bx;have HO:=hid (HF2.out.val.ret HX2.out.al HB2.out (Nat.le_refl _));obtain ⟨x0,x1,x2,x3,xf,xlt⟩:=HX1.out.bx;generalize varA v=R at *;rw [hw2,store4_alloc xlt] at HO;clear HF2 HRC HX1 HX2 r0 r1 r2 r3 rf rlt;go_wp2;exact bodyPost_ret (by simp [results,Tryz.results34,go_sem,x0,x1,x2,x3,xlt,Nat.ne_of_lt xlt]) rfl HO.out
theorem lNumber {w:World} {vq:Value} {q:Rat} (hq:RatV w vq (ratL q)):Calls Tryz.prog 88 #[vq] w (RetAf w (numA q)):=by
 obtain ⟨p1,p2,p3,rfl,hrc⟩:=RatC.of hq;have hF:FormP w (.slice none 0 0) p1 p2 p3 (numA q):=⟨⟨none,0,rfl,Nat.le_refl _,Nat.zero_le _,.inl rfl⟩,hrc⟩
 obtain ⟨an,ad,cn,cd,rfl,rfl,rfl,l1,l2,u1,u2⟩:=hrc.ex;have x2:=Box3.alloc w (.bool (ratL q).neg) (.slice an (ratL q).num.length cn) (.slice ad (ratL q).den.length cd) 51;have b2:=blA w (.cells #[.bool (ratL q).neg,.slice an (ratL q).num.length cn,.slice ad (ratL q).den.length cd] 51);have s2:(w.alloc (.cells #[.bool (ratL q).neg,.slice an (ratL q).num.length cn,.slice ad (ratL q).den.length cd] 51)).heap.size=w.heap.size+1:=by simp
 obtain ⟨W2,hW2⟩:∃ W2,W2=w.alloc (.cells #[.bool (ratL q).neg,.slice an (ratL q).num.length cn,.slice ad (ratL q).den.length cd] 51):=⟨_,rfl⟩
 rw [<- hW2] at x2 b2 s2;have x3:=ABox.alloc (zer_form W2) 53;have b3:=blA W2 (.cells #[.slice none 0 0,.bool false,.slice none 0 0,.slice none 0 0] 53);obtain ⟨W3,hW3⟩:∃ W3,W3=W2.alloc (.cells #[.slice none 0 0,.bool false,.slice none 0 0,.slice none 0 0] 53):=⟨_,rfl⟩
 rw [<- hW3] at x3 b3;rw [s2] at x3;obtain ⟨HX2,HX3,HB,HF,HWs⟩:=hd5 (x2.below b3) x3 (b2.trans (b3.mono b2.size)) (formK.below (formK.below hF b2) b3) hW3;rw [hW2] at HWs;clear x2 x3 b2 b3 s2 hW2 hW3 hF hq u1 u2 hrc
 go_enter Tryz.func88,Tryz.ntmps88
 go_upto_region 1 with fail
 rw [<- HWs.out];clear HWs;obtain ⟨k0,k1,k2,kf,klt⟩:=HX2.out;obtain ⟨r0,r1,r2,r3,rf,rlt⟩:=HX3.out.bx;have HO:=hid (HF.out.val.ret HX3.out.al HB.out (by omega));generalize numA q=R at *;go_wp2;exact bodyPost_ret (by simp [results,Tryz.results88,go_sem,r0,r1,r2,r3]) rfl HO.out
theorem FormP.spell {w:World} {p0 p1 p2 p3:Value} {f:AffQ} (h:FormP w p0 p1 p2 p3 f):∃ a n c b an nn cn ad nd cd,p0=.slice a n c/\p1=.bool b/\p2=.slice an nn cn/\p3=.slice ad nd cd:=by
 obtain ⟨⟨a,c,rfl,_,_⟩,hr⟩:=h;obtain ⟨an,ad,cn,cd,rfl,rfl,rfl,_⟩:=hr.ex;exact ⟨_,_,_,_,_,_,_,_,_,_,rfl,rfl,rfl,rfl⟩
theorem FormV.spell {w:World} {v:Value} {f:AffQ} (h:FormV w v f):∃ a n c b an nn cn ad nd cd,v=.agg #[.slice a n c,.bool b,.slice an nn cn,.slice ad nd cd]:=by
 obtain ⟨p0,p1,p2,p3,rfl,k⟩:=h.ex;obtain ⟨a,n,c,b,an,nn,cn,ad,nd,cd,rfl,rfl,rfl,rfl⟩:=k.spell;exact ⟨a,n,c,b,an,nn,cn,ad,nd,cd,rfl⟩
theorem RatV.spell {w:World} {v:Value} {x:RatL} (h:RatV w v x):∃ b an nn cn ad nd cd,v=.agg #[.bool b,.slice an nn cn,.slice ad nd cd]:=by
 obtain ⟨an,ad,cn,cd,rfl,_⟩:=h.ex;exact ⟨_,_,_,_,_,_,_,rfl⟩
structure LowV where
 kd:Int
 fr:Int
 ot:Int
 kh:Int
 kw:Int
 st:Int
 pd:Int
 a1:Option Addr
 n1:Nat
 c1:Nat
 a2:Option Addr
 n2:Nat
 c2:Nat
 aS:Option Addr
 nS:Nat
 cS:Nat
 ax:Option Addr
 nx:Nat
 cx:Nat
 aT:Option Addr
 nT:Nat
 cT:Nat
 fu:Value
structure LoBox (W:World) (g:Nat) (s:LowV):Prop where
 f0:W.cell? ⟨g,0,none⟩=some (.int .i64 s.kd)
 f1:W.cell? ⟨g,1,none⟩=some (.int .i64 s.fr)
 f2:W.cell? ⟨g,2,none⟩=some (.int .i64 s.ot)
 f3:W.cell? ⟨g,3,none⟩=some (.int .i64 s.kh)
 f4:W.cell? ⟨g,4,none⟩=some (.int .i64 s.kw)
 f5:W.cell? ⟨g,5,none⟩=some (.int .i64 s.st)
 f6:W.cell? ⟨g,6,none⟩=some (.int .i64 s.pd)
 f7:W.cell? ⟨g,7,none⟩=some (.slice s.a1 s.n1 s.c1)
 f8:W.cell? ⟨g,8,none⟩=some (.slice s.a2 s.n2 s.c2)
 f9:W.cell? ⟨g,9,none⟩=some (.slice s.aS s.nS s.cS)
 f10:W.cell? ⟨g,10,none⟩=some (.slice s.ax s.nx s.cx)
 f11:W.cell? ⟨g,11,none⟩=some (.slice s.aT s.nT s.cT)
 f12:W.cell? ⟨g,12,none⟩=some s.fu
 free:∀ i,W.frozen? ⟨g,i,none⟩=false
 lt:g < W.heap.size
theorem LoBox.belowB {W W':World} {g B:Nat} {s:LowV} (h:LoBox W g s) (hb:Below B W W') (hg:g < B):LoBox W' g s:=by
 obtain ⟨f0,f1,f2,f3,f4,f5,f6,f7,f8,f9,f10,f11,f12,ff,lt⟩:=h;have k:=fun o=>hb.cell (p:=⟨g,o,none⟩) hg
 exact ⟨(k 0).trans f0,(k 1).trans f1,(k 2).trans f2,(k 3).trans f3,(k 4).trans f4,(k 5).trans f5,(k 6).trans f6,(k 7).trans f7,(k 8).trans f8,(k 9).trans f9,(k 10).trans f10,(k 11).trans f11,(k 12).trans f12,
  fun i=>(hb.frozen hg).trans (ff i),Nat.lt_of_lt_of_le lt hb.size⟩
theorem LoBox.below {W W':World} {g:Nat} {s:LowV} (h:LoBox W g s) (hb:Below W.heap.size W W'):LoBox W' g s:=h.belowB hb h.lt
abbrev OwnF (w:World) (base:Nat) (v:Value) (L:List AffQ):Prop:=Own4 FormP isBS 53 w base v L
structure OutF (w wr:World) (v:Value) (L:List AffQ):Prop where
 own:OwnF wr w.heap.size v L
 bl:Below w.heap.size w wr
theorem OutF.start (w:World):OutF w w (.slice none 0 0) []:=⟨Own4.nil _ _,Below.refl _ _⟩
theorem OutF.below {w wr W:World} {v:Value} {L:List AffQ} (h:OutF w wr v L) (hb:Below wr.heap.size wr W):OutF w W v L:=⟨h.own.below formK hb,h.bl.trans (hb.mono h.bl.size)⟩
def RowAf (w:World) (L:List AffQ) (e:Ending) (w':World):Prop:=∃ a c,e=.returned (.slice a L.length c)/\OwnF w' w.heap.size (.slice a L.length c) L/\Below w.heap.size w w'
theorem OutF.ret {w wr:World} {a:Option Addr} {n c:Nat} {L:List AffQ} (h:OutF w wr (.slice a n c) L) (hn:L.length=n):RowAf w L (.returned (.slice a n c)) wr:=by
 subst hn;exact ⟨a,c,rfl,h.own,h.bl⟩
structure AcF (w wr:World) (g:Nat) (f:AffQ):Prop where
 ex:∃ p0 p1 p2 p3,ABox wr g p0 p1 p2 p3 f
 bl:Below w.heap.size w wr
 ge:w.heap.size<=g
theorem AcF.below {w wr W:World} {g:Nat} {f:AffQ} (h:AcF w wr g f) (hb:Below wr.heap.size wr W):AcF w W g f:=by
 obtain ⟨p0,p1,p2,p3,k⟩:=h.ex;exact ⟨⟨p0,p1,p2,p3,k.below hb⟩,h.bl.trans (hb.mono h.bl.size),h.ge⟩
theorem AcF.lt {w wr:World} {g:Nat} {f:AffQ} (h:AcF w wr g f):g < wr.heap.size:=by
 obtain ⟨p0,p1,p2,p3,k⟩:=h.ex;exact k.bx.lt
theorem AcF.spell {w wr:World} {g:Nat} {f:AffQ} (h:AcF w wr g f):∃ a n c b an nn cn ad nd cd,ABox wr g (.slice a n c) (.bool b) (.slice an nn cn) (.slice ad nd cd) f:=by
 obtain ⟨p0,p1,p2,p3,k⟩:=h.ex;obtain ⟨a,n,c,b,an,nn,cn,ad,nd,cd,rfl,rfl,rfl,rfl⟩:=k.fm.spell;exact ⟨a,n,c,b,an,nn,cn,ad,nd,cd,k⟩
theorem AcF.step {w wr W:World} {g:Nat} {f k:AffQ} {q0 q1 q2 q3:Value} (h:AcF w wr g f) (hb:Below wr.heap.size wr W) (hk:FormP W q0 q1 q2 q3 k):
  AcF w ((((W.setCell ⟨g,0,none⟩ q0).setCell ⟨g,1,none⟩ q1).setCell ⟨g,2,none⟩ q2).setCell ⟨g,3,none⟩ q3) g k:=by
 obtain ⟨p0,p1,p2,p3,hx⟩:=h.ex;exact ⟨⟨_,_,_,_,(hx.below hb).set hk⟩,below_store4 (h.bl.trans (hb.mono h.bl.size)) h.ge _ _ _ _,h.ge⟩
theorem AcF.make {w wr W:World} {q0 q1 q2 q3:Value} {k:AffQ} (hb:Below w.heap.size w wr) (hw:Below wr.heap.size wr W) (hk:FormP W q0 q1 q2 q3 k) (T:Nat):AcF w (W.alloc (.cells #[q0,q1,q2,q3] T)) W.heap.size k:=
 ⟨⟨_,_,_,_,ABox.alloc hk T⟩,hb.trans ((hw.mono hb.size).alloc (Nat.le_trans hb.size hw.size) _),Nat.le_trans hb.size hw.size⟩
theorem One4.form {w:World} {q0 q1 q2 q3:Value} {k:AffQ} (h:FormP w q0 q1 q2 q3 k) (T:Nat):One4 FormP (w.alloc (.cells #[q0,q1,q2,q3] T)) (.slice (some ⟨w.heap.size,0,none⟩) 1 1) k:=One4.alloc formK h T
def WinsF (w:World) (L:List (List Int)) (e:Ending) (w':World):Prop:=∃ a c,e=.returned (.slice a L.length c)/\Intss w' (fun b=>w.heap.size<=b) a L/\Below w.heap.size w w'
def WnG (F:Nat->Prop) (V:Nat->Value) (A:List (List Int)) (n:Nat) (e1 e2 e3:Value) (i:Nat) (v:Value) (w:World):Prop:=
 match i with
 | 24=>∃ a c,v=.tuple #[.slice a n c,e1,e2,e3]/\Intss w F a A
 | 25=>∃ a c,v=.tuple #[.slice a n c,e1,e2,e3]/\Intss w F a A
 | 26=>∃ a c,v=.slice a n c/\Intss w F a A
 | 27=>v=e1
 | 28=>v=e2
 | 29=>v=e3
 | 30=>∃ a c,v=.slice a n c/\Intss w F a A
 | 31=>v=e1
 | 32=>v=e2
 | 33=>v=e3
 | i=>v=V i
theorem WnG_below {F:Nat->Prop} {V:Nat->Value} {A:List (List Int)} {n:Nat} {e1 e2 e3:Value} {i:Nat} {v:Value} {w w':World} (h:WnG F V A n e1 e2 e3 i v w) (hb:Below w.heap.size w w'):WnG F V A n e1 e2 e3 i v w':=by
 unfold WnG at h ⊢
 split at h
 ·obtain ⟨a,c,e,k⟩:=h;exact ⟨a,c,e,k.below hb⟩
 ·obtain ⟨a,c,e,k⟩:=h;exact ⟨a,c,e,k.below hb⟩
 ·obtain ⟨a,c,e,k⟩:=h;exact ⟨a,c,e,k.below hb⟩
 ·exact h
 ·exact h
 ·exact h
 ·obtain ⟨a,c,e,k⟩:=h;exact ⟨a,c,e,k.below hb⟩
 ·exact h
 ·exact h
 ·exact h
 ·exact h
theorem lWindows {w:World} {gL:Nat} {S:LowV} {sh:List Int} {F:Nat->Prop} (hL:LoBox w gL S) (h1:sh.length=S.nS) (hS:Ints w F S.aS sh):
  Calls Tryz.prog 90 #[.pointer (some ⟨gL,0,none⟩)] w (WinsF w (windowsL sh S.kh S.kw S.st S.pd).1):=by
 have HSB:=hid hL;have HWn:Hid (∀ X,Below w.heap.size w X->Calls Tryz.prog 131 #[.slice S.aS S.nS S.cS,.int .i64 S.kh,.int .i64 S.kw,.int .i64 S.st,.int .i64 S.pd] X (WinPost X sh S.kh S.kw S.st S.pd)):=fun X hb=>by
  have h:=tWin S.cS S.kh S.kw S.st S.pd (hS.below hb);rw [h1] at h;exact h
 clear hS hL h1;generalize hwl:(windowsL sh S.kh S.kw S.st S.pd)=WL;have HWl:=hid hwl;clear hwl
 go_enter Tryz.func90,Tryz.ntmps90
 go_upto_region 1 with fail
 obtain ⟨A,hA⟩:∃ A,A=WL.1:=⟨_,rfl⟩
 obtain ⟨e1,he1⟩:∃ e1,e1=Value.int .i64 WL.2.1:=⟨_,rfl⟩
 obtain ⟨e2,he2⟩:∃ e2,e2=Value.int .i64 WL.2.2.1:=⟨_,rfl⟩
 obtain ⟨e3,he3⟩:∃ e3,e3=Value.int .i64 WL.2.2.2:=⟨_,rfl⟩
 have HE:=hid (And.intro hA (And.intro he1 (And.intro he2 he3)));clear hA he1 he2 he3
 refine wp_region_slots_all (by kernel_rfl) (by kernel_rfl) (by kernel_rfl) (AllJ w (WnG (fun b=>w.heap.size<=b) (fun i=>match i with | 0=>.pointer (some ⟨gL,0,none⟩) | 1=>.pointer (some ⟨gL,0,none⟩) | 2=>.pointer (some ⟨gL,9,none⟩) | 3=>.slice S.aS S.nS S.cS | 4=>.pointer (some ⟨gL,0,none⟩) | 5=>.pointer (some ⟨gL,0,none⟩) | 6=>.pointer (some ⟨gL,0,none⟩) | 7=>.pointer (some ⟨gL,3,none⟩) | 8=>.int .i64 S.kh | 9=>.pointer (some ⟨gL,0,none⟩) | 10=>.pointer (some ⟨gL,0,none⟩) | 11=>.pointer (some ⟨gL,0,none⟩) | 12=>.pointer (some ⟨gL,4,none⟩) | 13=>.int .i64 S.kw | 14=>.pointer (some ⟨gL,0,none⟩) | 15=>.pointer (some ⟨gL,0,none⟩) | 16=>.pointer (some ⟨gL,0,none⟩) | 17=>.pointer (some ⟨gL,5,none⟩) | 18=>.int .i64 S.st | 19=>.pointer (some ⟨gL,0,none⟩) | 20=>.pointer (some ⟨gL,0,none⟩) | 21=>.pointer (some ⟨gL,0,none⟩) | 22=>.pointer (some ⟨gL,6,none⟩) | 23=>.int .i64 S.pd | _=>.bool false) A A.length e1 e2 e3)) (fun g=>AllJ.start g) ?_ ?_
 ·intro ops;simp only [ShowsJ]
  refine ⟨?v0,?_,?_,?_,?v4,?_,?_,?_,?_,?v9,?_,?_,?_,?_,?v14,?_,?_,?_,?_,?v19,?_,?_,?_,?_,?_,?_,?_,?v27,?v28,?v29,?_,?_,?_,?_,trivial⟩
  all_goals (intro d g W hJ hd hW;have hJB:=hJ.be;obtain ⟨f0,f1,f2,f3,f4,f5,f6,f7,f8,f9,f10,f11,f12,ff,glt⟩:=HSB.out.below hJ.be;simp only [Waits,Region.binds,forall_const,Bool.false_eq_true,false_implies,and_true,true_and] at hW)
  case v0|v4|v9|v14|v19=>
   simp [fillFrom,Act.put];have HJ:=hid hJ;clear hJ hd hW;go_wp2
   first | refine ⟨_,rfl,?_⟩ | refine ⟨rfl,_,?_⟩ | skip
   exact HJ.out.here (fun i v w w' h hb=>WnG_below h hb) rfl
  case v27|v28|v29=>
   have h25:d 25=true:=by simp only [hW]
   have J25:=hJ.all 25 h25;simp only [WnG] at J25;simp [fillFrom,Act.put];generalize hg25:g 25=y25;rw [hg25] at J25;obtain ⟨a7,c7,rfl,H7⟩:=J25;have HJ:=hid hJ;clear hJ hd hW h25;clear H7;go_wp2
   first | refine ⟨_,rfl,?_⟩ | refine ⟨rfl,_,?_⟩ | skip
   exact HJ.out.here (fun i v w w' h hb=>WnG_below h hb) rfl
  ·have h0:d 0=true:=by simp only [hW]
   have J0:=hJ.all 0 h0;simp only [WnG] at J0;simp [fillFrom,Act.put];generalize hg0:g 0=y0;rw [hg0] at J0;obtain rfl:=J0;have HJ:=hid hJ;clear hJ hd hW h0;go_wp2
   first | refine ⟨_,rfl,?_⟩ | refine ⟨rfl,_,?_⟩ | skip
   exact HJ.out.here (fun i v w w' h hb=>WnG_below h hb) rfl
  ·have h1:d 1=true:=by simp only [hW]
   have J1:=hJ.all 1 h1;simp only [WnG] at J1;simp [fillFrom,Act.put];generalize hg1:g 1=y1;rw [hg1] at J1;obtain rfl:=J1;have HJ:=hid hJ;clear hJ hd hW h1;go_wp2
   first | refine ⟨_,rfl,?_⟩ | refine ⟨rfl,_,?_⟩ | skip
   exact HJ.out.here (fun i v w w' h hb=>WnG_below h hb) rfl
  ·have h2:d 2=true:=by simp only [hW]
   have J2:=hJ.all 2 h2;simp only [WnG] at J2;simp [fillFrom,Act.put];generalize hg2:g 2=y2;rw [hg2] at J2;obtain rfl:=J2;have HJ:=hid hJ;clear hJ hd hW h2;go_wp2
   first | refine ⟨_,rfl,?_⟩ | refine ⟨rfl,_,?_⟩ | skip
   exact HJ.out.here (fun i v w w' h hb=>WnG_below h hb) rfl
  ·have h4:d 4=true:=by simp only [hW]
   have J4:=hJ.all 4 h4;simp only [WnG] at J4;simp [fillFrom,Act.put];generalize hg4:g 4=y4;rw [hg4] at J4;obtain rfl:=J4;have HJ:=hid hJ;clear hJ hd hW h4;go_wp2
   first | refine ⟨_,rfl,?_⟩ | refine ⟨rfl,_,?_⟩ | skip
   exact HJ.out.here (fun i v w w' h hb=>WnG_below h hb) rfl
  ·have h5:d 5=true:=by simp only [hW]
   have J5:=hJ.all 5 h5;simp only [WnG] at J5;simp [fillFrom,Act.put];generalize hg5:g 5=y5;rw [hg5] at J5;obtain rfl:=J5;have HJ:=hid hJ;clear hJ hd hW h5;go_wp2
   first | refine ⟨_,rfl,?_⟩ | refine ⟨rfl,_,?_⟩ | skip
   exact HJ.out.here (fun i v w w' h hb=>WnG_below h hb) rfl
  ·have h6:d 6=true:=by simp only [hW]
   have J6:=hJ.all 6 h6;simp only [WnG] at J6;simp [fillFrom,Act.put];generalize hg6:g 6=y6;rw [hg6] at J6;obtain rfl:=J6;have HJ:=hid hJ;clear hJ hd hW h6;go_wp2
   first | refine ⟨_,rfl,?_⟩ | refine ⟨rfl,_,?_⟩ | skip
   exact HJ.out.here (fun i v w w' h hb=>WnG_below h hb) rfl
  ·have h7:d 7=true:=by simp only [hW]
   have J7:=hJ.all 7 h7;simp only [WnG] at J7;simp [fillFrom,Act.put];generalize hg7:g 7=y7;rw [hg7] at J7;obtain rfl:=J7;have HJ:=hid hJ;clear hJ hd hW h7;go_wp2
   first | refine ⟨_,rfl,?_⟩ | refine ⟨rfl,_,?_⟩ | skip
   exact HJ.out.here (fun i v w w' h hb=>WnG_below h hb) rfl
  ·have h9:d 9=true:=by simp only [hW]
   have J9:=hJ.all 9 h9;simp only [WnG] at J9;simp [fillFrom,Act.put];generalize hg9:g 9=y9;rw [hg9] at J9;obtain rfl:=J9;have HJ:=hid hJ;clear hJ hd hW h9;go_wp2
   first | refine ⟨_,rfl,?_⟩ | refine ⟨rfl,_,?_⟩ | skip
   exact HJ.out.here (fun i v w w' h hb=>WnG_below h hb) rfl
  ·have h10:d 10=true:=by simp only [hW]
   have J10:=hJ.all 10 h10;simp only [WnG] at J10;simp [fillFrom,Act.put];generalize hg10:g 10=y10;rw [hg10] at J10;obtain rfl:=J10;have HJ:=hid hJ;clear hJ hd hW h10;go_wp2
   first | refine ⟨_,rfl,?_⟩ | refine ⟨rfl,_,?_⟩ | skip
   exact HJ.out.here (fun i v w w' h hb=>WnG_below h hb) rfl
  ·have h11:d 11=true:=by simp only [hW]
   have J11:=hJ.all 11 h11;simp only [WnG] at J11;simp [fillFrom,Act.put];generalize hg11:g 11=y11;rw [hg11] at J11;obtain rfl:=J11;have HJ:=hid hJ;clear hJ hd hW h11;go_wp2
   first | refine ⟨_,rfl,?_⟩ | refine ⟨rfl,_,?_⟩ | skip
   exact HJ.out.here (fun i v w w' h hb=>WnG_below h hb) rfl
  ·have h12:d 12=true:=by simp only [hW]
   have J12:=hJ.all 12 h12;simp only [WnG] at J12;simp [fillFrom,Act.put];generalize hg12:g 12=y12;rw [hg12] at J12;obtain rfl:=J12;have HJ:=hid hJ;clear hJ hd hW h12;go_wp2
   first | refine ⟨_,rfl,?_⟩ | refine ⟨rfl,_,?_⟩ | skip
   exact HJ.out.here (fun i v w w' h hb=>WnG_below h hb) rfl
  ·have h14:d 14=true:=by simp only [hW]
   have J14:=hJ.all 14 h14;simp only [WnG] at J14;simp [fillFrom,Act.put];generalize hg14:g 14=y14;rw [hg14] at J14;obtain rfl:=J14;have HJ:=hid hJ;clear hJ hd hW h14;go_wp2
   first | refine ⟨_,rfl,?_⟩ | refine ⟨rfl,_,?_⟩ | skip
   exact HJ.out.here (fun i v w w' h hb=>WnG_below h hb) rfl
  ·have h15:d 15=true:=by simp only [hW]
   have J15:=hJ.all 15 h15;simp only [WnG] at J15;simp [fillFrom,Act.put];generalize hg15:g 15=y15;rw [hg15] at J15;obtain rfl:=J15;have HJ:=hid hJ;clear hJ hd hW h15;go_wp2
   first | refine ⟨_,rfl,?_⟩ | refine ⟨rfl,_,?_⟩ | skip
   exact HJ.out.here (fun i v w w' h hb=>WnG_below h hb) rfl
  ·have h16:d 16=true:=by simp only [hW]
   have J16:=hJ.all 16 h16;simp only [WnG] at J16;simp [fillFrom,Act.put];generalize hg16:g 16=y16;rw [hg16] at J16;obtain rfl:=J16;have HJ:=hid hJ;clear hJ hd hW h16;go_wp2
   first | refine ⟨_,rfl,?_⟩ | refine ⟨rfl,_,?_⟩ | skip
   exact HJ.out.here (fun i v w w' h hb=>WnG_below h hb) rfl
  ·have h17:d 17=true:=by simp only [hW]
   have J17:=hJ.all 17 h17;simp only [WnG] at J17;simp [fillFrom,Act.put];generalize hg17:g 17=y17;rw [hg17] at J17;obtain rfl:=J17;have HJ:=hid hJ;clear hJ hd hW h17;go_wp2
   first | refine ⟨_,rfl,?_⟩ | refine ⟨rfl,_,?_⟩ | skip
   exact HJ.out.here (fun i v w w' h hb=>WnG_below h hb) rfl
  ·have h19:d 19=true:=by simp only [hW]
   have J19:=hJ.all 19 h19;simp only [WnG] at J19;simp [fillFrom,Act.put];generalize hg19:g 19=y19;rw [hg19] at J19;obtain rfl:=J19;have HJ:=hid hJ;clear hJ hd hW h19;go_wp2
   first | refine ⟨_,rfl,?_⟩ | refine ⟨rfl,_,?_⟩ | skip
   exact HJ.out.here (fun i v w w' h hb=>WnG_below h hb) rfl
  ·have h20:d 20=true:=by simp only [hW]
   have J20:=hJ.all 20 h20;simp only [WnG] at J20;simp [fillFrom,Act.put];generalize hg20:g 20=y20;rw [hg20] at J20;obtain rfl:=J20;have HJ:=hid hJ;clear hJ hd hW h20;go_wp2
   first | refine ⟨_,rfl,?_⟩ | refine ⟨rfl,_,?_⟩ | skip
   exact HJ.out.here (fun i v w w' h hb=>WnG_below h hb) rfl
  ·have h21:d 21=true:=by simp only [hW]
   have J21:=hJ.all 21 h21;simp only [WnG] at J21;simp [fillFrom,Act.put];generalize hg21:g 21=y21;rw [hg21] at J21;obtain rfl:=J21;have HJ:=hid hJ;clear hJ hd hW h21;go_wp2
   first | refine ⟨_,rfl,?_⟩ | refine ⟨rfl,_,?_⟩ | skip
   exact HJ.out.here (fun i v w w' h hb=>WnG_below h hb) rfl
  ·have h22:d 22=true:=by simp only [hW]
   have J22:=hJ.all 22 h22;simp only [WnG] at J22;simp [fillFrom,Act.put];generalize hg22:g 22=y22;rw [hg22] at J22;obtain rfl:=J22;have HJ:=hid hJ;clear hJ hd hW h22;go_wp2
   first | refine ⟨_,rfl,?_⟩ | refine ⟨rfl,_,?_⟩ | skip
   exact HJ.out.here (fun i v w w' h hb=>WnG_below h hb) rfl
  ·have h3:d 3=true:=by simp only [hW]
   have h8:d 8=true:=by simp only [hW]
   have h13:d 13=true:=by simp only [hW]
   have h18:d 18=true:=by simp only [hW]
   have h23:d 23=true:=by simp only [hW]
   have J3:=hJ.all 3 h3;have J8:=hJ.all 8 h8;have J13:=hJ.all 13 h13;have J18:=hJ.all 18 h18;have J23:=hJ.all 23 h23;simp only [WnG] at J3 J8 J13 J18 J23;simp [fillFrom,Act.put];generalize hg3:g 3=y3;rw [hg3] at J3;generalize hg8:g 8=y8;rw [hg8] at J8;generalize hg13:g 13=y13;rw [hg13] at J13;generalize hg18:g 18=y18;rw [hg18] at J18;generalize hg23:g 23=y23;rw [hg23] at J23;obtain rfl:=J3;obtain rfl:=J8;obtain rfl:=J13;obtain rfl:=J18;obtain rfl:=J23;have HJ:=hid hJ;clear hJ hd hW h3 h8 h13 h18 h23;have HCt:=hid (HWn.out W hJB)
   go_wp2_with fail
   refine HCt.out.mono ?_
   rintro e w1 ⟨a',c',rfl,hI,kb⟩;have KB:=hid kb;rw [HWl.out] at hI ⊢;obtain ⟨hA,he1,he2,he3⟩:=HE.out;rw [<- hA] at hI ⊢;rw [<- he1, <- he2, <- he3];have HI:=hid (hI.mono (fun b _ h=>Nat.le_trans hJB.size h));clear hI hA he1 he2 he3;clear kb HCt;go_wp2
   first | exact ⟨_,rfl,HJ.out.step (fun i v w w' h hb=>WnG_below h hb) KB.out ⟨_,_,rfl,HI.out⟩⟩ | exact HJ.out.step (fun i v w w' h hb=>WnG_below h hb) KB.out ⟨_,_,rfl,HI.out⟩
  ·have h24:d 24=true:=by simp only [hW]
   have J24:=hJ.all 24 h24;simp only [WnG] at J24;simp [fillFrom,Act.put];generalize hg24:g 24=y24;rw [hg24] at J24;obtain ⟨a6,c6,rfl,H6⟩:=J24;have HJ:=hid hJ;clear hJ hd hW h24;have K6:=hid H6;clear H6;go_wp2
   first | refine ⟨_,rfl,?_⟩ | refine ⟨rfl,_,?_⟩ | skip
   exact HJ.out.here (fun i v w w' h hb=>WnG_below h hb) ⟨_,_,rfl,K6.out⟩
  ·have h25:d 25=true:=by simp only [hW]
   have J25:=hJ.all 25 h25;simp only [WnG] at J25;simp [fillFrom,Act.put];generalize hg25:g 25=y25;rw [hg25] at J25;obtain ⟨a7,c7,rfl,H7⟩:=J25;have HJ:=hid hJ;clear hJ hd hW h25;have K7:=hid H7;clear H7;go_wp2
   first | refine ⟨_,rfl,?_⟩ | refine ⟨rfl,_,?_⟩ | skip
   exact HJ.out.here (fun i v w w' h hb=>WnG_below h hb) ⟨_,_,rfl,K7.out⟩
  ·have h26:d 26=true:=by simp only [hW]
   have J26:=hJ.all 26 h26;simp only [WnG] at J26;simp [fillFrom,Act.put];generalize hg26:g 26=y26;rw [hg26] at J26;obtain ⟨a8,c8,rfl,H8⟩:=J26;have HJ:=hid hJ;clear hJ hd hW h26;have K8:=hid H8;clear H8;go_wp2
   first | refine ⟨_,rfl,?_⟩ | refine ⟨rfl,_,?_⟩ | skip
   exact HJ.out.here (fun i v w w' h hb=>WnG_below h hb) ⟨_,_,rfl,K8.out⟩
  ·have h27:d 27=true:=by simp only [hW]
   have J27:=hJ.all 27 h27;simp only [WnG] at J27;simp [fillFrom,Act.put];generalize hg27:g 27=y27;rw [hg27] at J27;obtain rfl:=J27;have HJ:=hid hJ;clear hJ hd hW h27;go_wp2
   first | refine ⟨_,rfl,?_⟩ | refine ⟨rfl,_,?_⟩ | skip
   exact HJ.out.here (fun i v w w' h hb=>WnG_below h hb) rfl
  ·have h28:d 28=true:=by simp only [hW]
   have J28:=hJ.all 28 h28;simp only [WnG] at J28;simp [fillFrom,Act.put];generalize hg28:g 28=y28;rw [hg28] at J28;obtain rfl:=J28;have HJ:=hid hJ;clear hJ hd hW h28;go_wp2
   first | refine ⟨_,rfl,?_⟩ | refine ⟨rfl,_,?_⟩ | skip
   exact HJ.out.here (fun i v w w' h hb=>WnG_below h hb) rfl
  ·have h29:d 29=true:=by simp only [hW]
   have J29:=hJ.all 29 h29;simp only [WnG] at J29;simp [fillFrom,Act.put];generalize hg29:g 29=y29;rw [hg29] at J29;obtain rfl:=J29;have HJ:=hid hJ;clear hJ hd hW h29;go_wp2
   first | refine ⟨_,rfl,?_⟩ | refine ⟨rfl,_,?_⟩ | skip
   exact HJ.out.here (fun i v w w' h hb=>WnG_below h hb) rfl
 ·intro d g W hA hJ;have J30:=hJ.all 30 (hA 30 (by decide));have HBe:=hid hJ.be;simp only [WnG] at J30;simp [fillFrom,Act.put];generalize g 30=y30 at J30 ⊢;obtain ⟨a9,c9,rfl,H9⟩:=J30;clear hJ hA;have K9:=hid H9;clear H9;go_wp2;exact bodyPost_ret (v:=.slice a9 A.length c9) (by simp [results,Tryz.results90,go_sem]) rfl (show WinsF w WL.1 _ _ from by rw [<- HE.out.1];exact ⟨a9,c9,rfl,K9.out,HBe.out⟩)
end Go.Proofs.YtfgmmghmmfmdgaaGreat
