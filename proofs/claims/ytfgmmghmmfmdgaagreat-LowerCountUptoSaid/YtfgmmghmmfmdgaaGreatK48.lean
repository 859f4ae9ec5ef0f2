/-
  Contracts of the functions that the statement reaches: RgF, RgG, LwD, LqA.
-/
import Derived.Test.YtfgmmghmmfmdgaaGreatK47
set_option linter.all false
set_option maxRecDepth 100000
set_option maxHeartbeats 3200000
namespace Go.Proofs.YtfgmmghmmfmdgaaGreat
open Go.RowKit
open Go.Lib (hid)
theorem can_take:∀ {l:List (Nat × Rat)} {lo:Nat} (j:Nat),CanF l lo->CanF (l.take j) lo
 | [],_,j,_=>by rw [List.take_nil];trivial
 | _::_,_,0,_=>trivial
 | (u,p)::r,lo,j+1,⟨h1,h2,h3⟩=>⟨h1,h2,can_take j h3⟩
theorem coef_take:∀ {l:List (Nat × Rat)} {lo:Nat} (j v:Nat),CanF l lo->coefT (l.take j) v=0 ∨ coefT (l.take j) v=coefT l v
 | [],_,j,v,_=>by rw [List.take_nil];exact .inl rfl
 | _::_,_,0,v,_=>.inl rfl
 | (u,p)::r,lo,j+1,v,⟨_,_,h3⟩=>by
  show (if u=v then p else coefT (r.take j) v)=0 ∨ (if u=v then p else coefT (r.take j) v)=(if u=v then p else coefT r v)
  split
  ·exact .inr rfl
  ·exact coef_take j v h3
theorem foldT_len:∀ (f g:List (Nat × Rat)),(foldT f g).length<=f.length+g.length
 | f,[]=>by simp [foldT]
 | f,(v,q)::r=>by
  show (foldT (insT f v q) r).length<=_
  have h1:=foldT_len (insT f v q) r;have h2:=insT_len f v q;rw [List.length_cons];omega
theorem fold_bd {D B C N j:Nat} {f g:AffQ} (hf:BdF D B N f) (hg:BdF D C N g) (v:Nat):Bd D (B+C) (coefT (foldT f.ts (g.ts.take j)) v):=by
 rw [foldT_coef hf.can (can_take j hg.can) v]
 refine (hf.t v).add ?_
 rcases coef_take j v hg.can with e | e
 ·rw [e];exact Bd.zero hf.pos
 ·rw [e];exact hg.t v
theorem fold_mem {D B C N j:Nat} {f g:AffQ} (hf:BdF D B N f) (hg:BdF D C N g) {t:Nat × Rat} (ht:t ∈ foldT f.ts (g.ts.take j)):Bd D (B+C) t.2:=by
 have h:=fold_bd (j:=j) hf hg t.1
 rwa [(mem_coef (foldT_can hf.can) ht).2] at h
theorem fold_next {D B C N j u:Nat} {f g:AffQ} {p p':Rat} (hf:BdF D B N f) (hg:BdF D C N g) (hx:g.ts[j]? =some (u,p)) (ht:(u,p') ∈ foldT f.ts (g.ts.take j)):Bd D (B+C) (p'+p):=by
 have h:=fold_bd (j:=j+1) hf hg u;rw [take_snoc hx,foldT_snoc,insT_coef u p (foldT_can hf.can),if_pos rfl,(mem_coef (foldT_can hf.can) ht).2] at h;exact h
theorem Pay.b5 {D B:Nat} {q:Rat} (h:Pay D B) (hq:Bd D B q):RatLe (ratL q) 524285:=hq.le h
inductive Sx where
 | val (x:Value)
 | rat (q:Rat)
 | num (s:Value) (q:Rat)
 | new4 (B:Nat)
def GX (L:List Sx) (i:Nat) (v:Value) (w:World):Prop:=
 match L[i]? with
 | some (.val x)=>v=x
 | some (.rat q)=>RatV w v (ratL q)
 | some (.num s q)=>∃ p1 p2 p3,v=.agg #[s,p1,p2,p3]/\RatC w p1 p2 p3 q
 | some (.new4 B)=>∃ b,v=.pointer (some ⟨b,0,none⟩)/\B<=b/\Box4 w b (.slice none 0 0) (.bool false) (.slice none 0 0) (.slice none 0 0)/\AllB isBS w b
 | none=>True
theorem GX_below {L:List Sx} {i:Nat} {v:Value} {w w':World} (h:GX L i v w) (hb:Below w.heap.size w w'):GX L i v w':=by
 unfold GX at h ⊢
 split
 ·rename_i x hx;rw [hx] at h;exact h
 ·rename_i x hx;rw [hx] at h;exact RatV.below h hb
 ·rename_i s x hx;rw [hx] at h;obtain ⟨p1,p2,p3,e,k⟩:=h;exact ⟨p1,p2,p3,e,k.below hb⟩
 ·rename_i x hx;rw [hx] at h;obtain ⟨b,e,l,k1,k2⟩:=h;exact ⟨b,e,l,k1.below hb,k2.below hb k1.lt⟩
 ·trivial
structure CpJ (W1:World) (t0 t1 t2 c1 c2 c3:Value) (n:Nat) (L:List (Nat × Rat)) (d:Nat->Bool) (g:Nat->Value) (W:World):Prop where
 be:Below W1.heap.size W1 W
 v0:d 0=true->d 3=false->∃ b,g 0=.slice (some ⟨b,0,none⟩) 0 0/\W1.heap.size<=b/\W.heap[b]? =some (.cells #[] 84 (0,0))
 v1:d 1=true->g 1=t0
 v2:d 2=true->g 2=t1
 v3:d 3=true->∃ b c,g 3=.slice b n c/\n<=c/\TermsAt W b L
 v4:d 4=true->g 4=t2
 v5:d 5=true->g 5=.agg #[c1,c2,c3]
 c6:d 6=true->d 3=true
 v6:d 6=true->∃ b c,g 6=.agg #[.slice b n c,c1,c2,c3]/\n<=c/\TermsAt W b L
theorem own_row4 {α:Type} {P:World->Value->Value->Value->Value->α->Prop} {T:TypeId} {w:World} {base:Nat} {a:Option Addr} {n c:Nat} {L:List α} {xs:List Value} (ho:w.ownsRow base T 4 (.slice a n c) n xs) (hn:L.length=n) (he:∀ (j:Nat) (x:α),L[j]? =some x->∃ p0 p1 p2 p3,xs[j * 4]? =some p0/\xs[j * 4+1]? =some p1/\xs[j * 4+2]? =some p2/\xs[j * 4+3]? =some p3/\P w p0 p1 p2 p3 x) (hl:L.length<=9223372036854775807):Row4 P w a L:=by
 rcases ho.2 with ⟨e,h0⟩ | ⟨g,cap,cur,e,hb,hg,hnc,hcm,hcs,htake⟩
 ·exact ⟨hl,.inl (List.eq_nil_of_length_eq_zero (by omega))⟩
 ·cases e
  refine ⟨hl,.inr ⟨g,0,rfl,(Array.getElem?_eq_some_iff.1 hg).1,fun j x hj=>?_⟩⟩
  obtain ⟨p0,p1,p2,p3,h0,h1,h2,h3,h4⟩:=he j x hj;have k0:=ho.cells (g:=g) rfl _ _ h0;have k1:=ho.cells (g:=g) rfl _ _ h1;have k2:=ho.cells (g:=g) rfl _ _ h2;have k3:=ho.cells (g:=g) rfl _ _ h3;simp only [Addr.add_lit] at k0 k1 k2 k3;exact ⟨p0,p1,p2,p3,k0,k1,k2,k3,h4⟩
section
variable {W1:World} {t0 t1 t2 c1 c2 c3:Value} {n:Nat} {L:List (Nat × Rat)} {d:Nat->Bool} {g:Nat->Value} {W W':World}
theorem mark_self (d:Nat->Bool) (i:Nat):mark d i i=true:=by unfold mark;rw [if_pos rfl]
theorem upd_self (g:Nat->Value) (i:Nat) (v:Value):upd g i v i=v:=by unfold upd;rw [if_pos rfl]
theorem upd_ne {g:Nat->Value} {i j:Nat} {v:Value} (h:j ≠ i):upd g i v j=g j:=by unfold upd;rw [if_neg h]
theorem CpJ.start (g:Nat->Value):CpJ W1 t0 t1 t2 c1 c2 c3 n L (fun _=>false) g W1.drew:=
 ⟨(Below.refl _ _).drew,(fun h=>by cases h),(fun h=>by cases h),(fun h=>by cases h),(fun h=>by cases h),(fun h=>by cases h),(fun h=>by cases h),(fun h=>by cases h),(fun h=>by cases h)⟩
theorem CpJ.s0 (h:CpJ W1 t0 t1 t2 c1 c2 c3 n L d g W):CpJ W1 t0 t1 t2 c1 c2 c3 n L (mark d 0) (upd g 0 (.slice (some ⟨W.heap.size,0,none⟩) 0 0)) (W.alloc (.cells #[] 84)):=by
 have hal:=blA W (.cells #[] 84)
 refine ⟨h.be.trans (hal.mono h.be.size),fun _ _=>⟨_,upd_self _ _ _,h.be.size,heap_alloc_new W _⟩,fun k=>?_,fun k=>?_,fun k=>?_,fun k=>?_,fun k=>?_,fun k=>?_,fun k=>?_⟩
 ·rw [mark_ne (by decide)] at k;rw [upd_ne (by decide)];exact h.v1 k
 ·rw [mark_ne (by decide)] at k;rw [upd_ne (by decide)];exact h.v2 k
 ·rw [mark_ne (by decide)] at k;rw [upd_ne (by decide)];obtain ⟨b,c,e,l,t⟩:=h.v3 k;exact ⟨b,c,e,l,t.below termK hal⟩
 ·rw [mark_ne (by decide)] at k;rw [upd_ne (by decide)];exact h.v4 k
 ·rw [mark_ne (by decide)] at k;rw [upd_ne (by decide)];exact h.v5 k
 ·rw [mark_ne (by decide)] at k ⊢;exact h.c6 k
 ·rw [mark_ne (by decide)] at k;rw [upd_ne (by decide)];obtain ⟨b,c,e,l,t⟩:=h.v6 k;exact ⟨b,c,e,l,t.below termK hal⟩
theorem CpJ.sv (h:CpJ W1 t0 t1 t2 c1 c2 c3 n L d g W) {i:Nat} {v:Value} (hi:(i=1/\v=t0) ∨ (i=2/\v=t1) ∨ (i=4/\v=t2) ∨ (i=5/\v=.agg #[c1,c2,c3])):CpJ W1 t0 t1 t2 c1 c2 c3 n L (mark d i) (upd g i v) W:=by
 have key:∀ j,j ≠ i->mark d i j=d j/\upd g i v j=g j:=fun j hj=>⟨mark_ne hj,upd_ne hj⟩
 have h0:=key 0 (by omega);have h3:=key 3 (by omega);have h6:=key 6 (by omega)
 refine ⟨h.be,fun k k2=>?_,fun k=>?_,fun k=>?_,fun k=>?_,fun k=>?_,fun k=>?_,fun k=>?_,fun k=>?_⟩
 ·rw [h0.1] at k;rw [h3.1] at k2;rw [h0.2];exact h.v0 k k2
 ·by_cases e:1=i
  ·subst e;rw [upd_self];rcases hi with ⟨e,rfl⟩ | ⟨e,rfl⟩ | ⟨e,rfl⟩ | ⟨e,rfl⟩ <;> first | rfl | (exfalso;omega)
  ·rw [(key 1 e).1] at k;rw [(key 1 e).2];exact h.v1 k
 ·by_cases e:2=i
  ·subst e;rw [upd_self];rcases hi with ⟨e,rfl⟩ | ⟨e,rfl⟩ | ⟨e,rfl⟩ | ⟨e,rfl⟩ <;> first | rfl | (exfalso;omega)
  ·rw [(key 2 e).1] at k;rw [(key 2 e).2];exact h.v2 k
 ·rw [h3.1] at k;rw [h3.2];exact h.v3 k
 ·by_cases e:4=i
  ·subst e;rw [upd_self];rcases hi with ⟨e,rfl⟩ | ⟨e,rfl⟩ | ⟨e,rfl⟩ | ⟨e,rfl⟩ <;> first | rfl | (exfalso;omega)
  ·rw [(key 4 e).1] at k;rw [(key 4 e).2];exact h.v4 k
 ·by_cases e:5=i
  ·subst e;rw [upd_self];rcases hi with ⟨e,rfl⟩ | ⟨e,rfl⟩ | ⟨e,rfl⟩ | ⟨e,rfl⟩ <;> first | rfl | (exfalso;omega)
  ·rw [(key 5 e).1] at k;rw [(key 5 e).2];exact h.v5 k
 ·rw [h6.1] at k;rw [h3.1];exact h.c6 k
 ·rw [h6.1] at k;rw [h6.2];exact h.v6 k
theorem CpJ.s3 (h:CpJ W1 t0 t1 t2 c1 c2 c3 n L d g W) (hd:d 3=false) (hb:Below W1.heap.size W1 W') {b:Option Addr} {c:Nat} (hc:n<=c) (ht:TermsAt W' b L):CpJ W1 t0 t1 t2 c1 c2 c3 n L (mark d 3) (upd g 3 (.slice b n c)) W':=by
 refine ⟨hb,fun _ k2=>?_,fun k=>?_,fun k=>?_,fun _=>⟨b,c,upd_self _ _ _,hc,ht⟩,fun k=>?_,fun k=>?_,fun _=>mark_self _ _,fun k=>?_⟩
 ·rw [mark_self] at k2;cases k2
 ·rw [mark_ne (by decide)] at k;rw [upd_ne (by decide)];exact h.v1 k
 ·rw [mark_ne (by decide)] at k;rw [upd_ne (by decide)];exact h.v2 k
 ·rw [mark_ne (by decide)] at k;rw [upd_ne (by decide)];exact h.v4 k
 ·rw [mark_ne (by decide)] at k;rw [upd_ne (by decide)];exact h.v5 k
 ·rw [mark_ne (by decide)] at k;have:=h.c6 k;rw [hd] at this;cases this
theorem CpJ.s6 (h:CpJ W1 t0 t1 t2 c1 c2 c3 n L d g W) (h3:d 3=true) {b:Option Addr} {c:Nat} (hc:n<=c) (ht:TermsAt W b L):CpJ W1 t0 t1 t2 c1 c2 c3 n L (mark d 6) (upd g 6 (.agg #[.slice b n c,c1,c2,c3])) W:=by
 refine ⟨h.be,fun k k2=>?_,fun k=>?_,fun k=>?_,fun k=>?_,fun k=>?_,fun k=>?_,fun _=>by rw [mark_ne (by decide)];exact h3,fun _=>⟨b,c,upd_self _ _ _,hc,ht⟩⟩
 ·rw [mark_ne (by decide)] at k k2;rw [upd_ne (by decide)];exact h.v0 k k2
 ·rw [mark_ne (by decide)] at k;rw [upd_ne (by decide)];exact h.v1 k
 ·rw [mark_ne (by decide)] at k;rw [upd_ne (by decide)];exact h.v2 k
 ·rw [mark_ne (by decide)] at k;rw [upd_ne (by decide)];exact h.v3 k
 ·rw [mark_ne (by decide)] at k;rw [upd_ne (by decide)];exact h.v4 k
 ·rw [mark_ne (by decide)] at k;rw [upd_ne (by decide)];exact h.v5 k
end
theorem cp_app {W1 W w5:World} {t0 t1 t2 c1 c2 c3 v':Value} {n:Nat} {L:List (Nat × Rat)} {d:Nat->Bool} {g:Nat->Value} {news:List Value} {v:Value} (h:CpJ W1 t0 t1 t2 c1 c2 c3 n L d g W) (hd:d 3=false) (hn:L.length=n) (he:∀ (j:Nat) (x:Nat × Rat),L[j]? =some x->∃ p0 p1 p2 p3,news[j * 4]? =some p0/\news[j * 4+1]? =some p1/\news[j * 4+2]? =some p2/\news[j * 4+3]? =some p3/\TermP W1 p0 p1 p2 p3 x) (hl:n<=500000)
  (hv:W.ownsRow W1.heap.size 84 4 v 0 []) (hown:w5.ownsRow W1.heap.size 84 4 v' (0+n) ([]++news)) (hg:W.grownBy w5 v.ownBlock):CpJ W1 t0 t1 t2 c1 c2 c3 n L (mark d 3) (upd g 3 v') w5:=by
 rw [Nat.zero_add,List.nil_append] at hown;obtain ⟨b,c,rfl,hc⟩:=own_form4 hown;have hb:Below W1.heap.size W1 w5:=h.be.grown hg h.be.size (fun k hk=>(hv.lt k hk).1)
 refine h.s3 hd hb hc (own_row4 hown hn (fun j x hx=>?_) (by omega))
 obtain ⟨p0,p1,p2,p3,e0,e1,e2,e3,e4⟩:=he j x hx;exact ⟨p0,p1,p2,p3,e0,e1,e2,e3,termK.below e4 hb⟩
theorem r7Add {w:World} {vf vg:Value} {f g:AffQ} {D B C N:Nat} (hf:FormV w vf f) (hg:FormV w vg g) (bf:BdF D B N f) (bg:BdF D C N g) (hP:Pay D (B+C)) (hN:N<=250000):
  Calls Tryz.prog 48 #[vf,vg] w (RetAf w (addA 1 f g)):=by
 obtain ⟨PP,hPE,hPP⟩:∃ PP:Prop,PP=Pay D (B+C)/\PP:=⟨_,rfl,hP⟩
 obtain ⟨HPE,HPP⟩:=hd2 hPE hPP;obtain ⟨aF,cF,fan,fad,fcn,fcd,rfl,hcF,htF,l1,l2,u1,u2⟩:=hf.parts;obtain ⟨aG,cG,gan,gad,gcn,gcd,rfl,hcG,htG,m1,m2,v1,v2⟩:=hg.parts;obtain ⟨HBf,HBg⟩:=hd2 bf bg;have hlF:=bf.few;have hlG:=bg.few;obtain ⟨RR,hRR⟩:∃ RR:AffQ,RR=addA 1 f g:=⟨_,rfl⟩
 have HRR:Hid (RR=⟨foldT f.ts g.ts,f.c+g.c⟩):=by
  unfold Hid;rw [hRR];show (⟨addT 1 f.ts g.ts,f.c+1 * g.c⟩:AffQ)=_
  rw [foldT_add bf.can bg.can,Rat.one_mul]
 rw [<- hRR];have HT:=hid (TwoF.mk' w (.slice aF f.ts.length cF) (.bool (ratL f.c).neg) (.slice fan (ratL f.c).num.length fcn) (.slice fad (ratL f.c).den.length fcd) (.slice aG g.ts.length cG) (.bool (ratL g.c).neg) (.slice gan (ratL g.c).num.length gcn) (.slice gad (ratL g.c).den.length gcd) 53);have HF0:Hid (TermsAt w aF f.ts/\RatC w (.bool (ratL f.c).neg) (.slice fan (ratL f.c).num.length fcn) (.slice fad (ratL f.c).den.length fcd) f.c):=⟨htF,fan,fad,fcn,fcd,rfl,rfl,rfl,l1,l2,u1,u2⟩
 have HG0:Hid (TermsAt w aG g.ts/\RatC w (.bool (ratL g.c).neg) (.slice gan (ratL g.c).num.length gcn) (.slice gad (ratL g.c).den.length gcd) g.c):=⟨htG,gan,gad,gcn,gcd,rfl,rfl,rfl,m1,m2,v1,v2⟩
 clear hf hg bf bg hP hPE hPP htF htG u1 u2 v1 v2 hRR l1 l2 m1 m2
 go_enter Tryz.func48,Tryz.ntmps48
 go_upto_region 1 with fail
 generalize ((w.alloc (.cells #[.slice aF f.ts.length cF,.bool (ratL f.c).neg,.slice fan (ratL f.c).num.length fcn,.slice fad (ratL f.c).den.length fcd] 53)).alloc (.cells #[.slice aG g.ts.length cG,.bool (ratL g.c).neg,.slice gan (ratL g.c).num.length gcn,.slice gad (ratL g.c).den.length gcd] 53)).alloc (.cells #[.slice none 0 0,.bool false,.slice none 0 0,.slice none 0 0] 53)=W3 at *;have HAc:Hid (∀ X,Below W3.heap.size W3 X->Calls Tryz.prog 78 #[.agg #[.bool (ratL f.c).neg,.slice fan (ratL f.c).num.length fcn,.slice fad (ratL f.c).den.length fcd],.agg #[.bool (ratL g.c).neg,.slice gan (ratL g.c).num.length gcn,.slice gad (ratL g.c).den.length gcd]] X (RetR X (ratL (f.c+g.c)))):=fun X hb=>by
  have hb2:=HT.out.bl.trans (hb.mono HT.out.bl.size);have hp:=HPP.out;rw [HPE.out] at hp;have h:=r3Add (HF0.out.2.below hb2).val (HG0.out.2.below hb2).val ((hp.b5 (HBf.out.c.mono (by omega))).mono (by decide)) ((hp.b5 (HBg.out.c.mono (by omega))).mono (by decide));rw [ratOf_ratL,ratOf_ratL] at h;exact h
 refine wp_region_slots_tail 9 (by kernel_rfl) (by kernel_rfl) (by kernel_rfl) (by kernel_rfl) (by decide) (From W3.heap.size W3) (fun w w'=>Below w.heap.size w w') (GX [.val (.pointer (some ⟨w.heap.size,0,none⟩)),.val (.slice aF f.ts.length cF),.val (.pointer (some ⟨w.heap.size,1,none⟩)),.val (.agg #[.bool (ratL f.c).neg,.slice fan (ratL f.c).num.length fcn,.slice fad (ratL f.c).den.length fcd]),.val (.pointer (some ⟨w.heap.size+1,1,none⟩)),.val (.agg #[.bool (ratL g.c).neg,.slice gan (ratL g.c).num.length gcn,.slice gad (ratL g.c).den.length gcd]),.rat (f.c+g.c),.num (.slice aF f.ts.length cF) (f.c+g.c),.new4 W3.heap.size]) (fun i v w w' h hb=>GX_below h hb) (From.start (Nat.le_refl _)) ?_ ?_
 ·intro ops;simp only [List.take_succ_cons,List.take_zero,Shows]
  refine ⟨?v0,?v1,?v2,?v3,?v4,?v5,?_,?_,?_,trivial⟩
  all_goals (intro y' X hR hL;have hB:=hR.base;have hT2:=HT.out.below hR.be;obtain ⟨f0,f1,f2,f3,_,ft⟩:=hT2.fb;obtain ⟨g0,g1,g2,g3,_,gt⟩:=hT2.gb;clear hT2;simp only [Laid,Region.binds,forall_const,Bool.false_eq_true,false_implies,GX,List.getElem?_cons_zero,List.getElem?_cons_succ] at hL;simp [fillFrom,Act.put])
  case v0|v1|v2|v3|v4|v5=>
   try simp only [hL]
   clear hL;have HR:=hid hR;clear hR;go_wp2
   first | refine ⟨_,rfl,?_⟩ | skip
   exact ⟨HR.out,Below.refl _ _,rfl⟩
  ·try simp only [hL]
   clear hL;have HR:=hid hR;clear hR;have HCt:=hid (HAc.out X HR.out.be)
   go_wp2_with fail
   refine HCt.out.mono ?_
   rintro e w1 ⟨v1,rfl,kv,kb⟩;obtain ⟨KV,KB⟩:=hd2 kv kb;clear kv kb HCt;go_wp2
   first | refine ⟨_,rfl,?_⟩ | skip
   exact ⟨⟨Nat.le_trans HR.out.base KB.out.size,HR.out.be.trans (KB.out.mono HR.out.base)⟩,KB.out,KV.out⟩
  ·generalize y' 1=y1 at hL ⊢;generalize y' 6=y6 at hL ⊢;obtain ⟨rfl,H6,_⟩:=hL;obtain ⟨K6,HR⟩:=hd2 H6 hR;clear hR H6;obtain ⟨an',ad',cn',cd',rfl,l1,l2,u1,u2⟩:=K6.out.ex;have HRC:=hid (show RatC X _ _ _ _ from ⟨an',ad',cn',cd',rfl,rfl,rfl,l1,l2,u1,u2⟩);clear u1 u2 K6;go_wp2
   first | refine ⟨_,rfl,?_⟩ | skip
   exact ⟨HR.out,Below.refl _ _,_,_,_,rfl,HRC.out⟩
  ·try simp only [hL]
   clear hL;have HR:=hid hR;clear hR;obtain ⟨HK4,HN4,HBa⟩:=hd3 (Box4.alloc X (.slice none 0 0) (.bool false) (.slice none 0 0) (.slice none 0 0) 53) ((ABox.alloc (zer_form X) 53).al) ((Below.refl X.heap.size X).alloc (Nat.le_refl _) (.cells #[.slice none 0 0,.bool false,.slice none 0 0,.slice none 0 0] 53));go_wp2
   first | refine ⟨_,rfl,?_⟩ | skip
   exact ⟨⟨Nat.le_trans HR.out.base HBa.out.size,HR.out.be.trans (HBa.out.mono HR.out.base)⟩,HBa.out,_,rfl,HR.out.base,HK4.out,HN4.out⟩
 ·intro ops y' X hR hL;have hB:=hR.base;have J7:=hL.1.2;have J8:=hL.2;simp only [GX,List.getElem?_cons_zero,List.getElem?_cons_succ] at J7 J8;have hT2:=HT.out.below hR.be;obtain ⟨f0,f1,f2,f3,_,ft⟩:=hT2.fb;obtain ⟨g0,g1,g2,g3,_,gt⟩:=hT2.gb;clear hT2;clear hL;simp only [List.take_succ_cons,List.take_zero,List.drop_succ_cons,List.drop_zero];simp [fillFrom,Act.put];generalize y' 7=y7 at J7 ⊢;generalize y' 8=y8 at J8 ⊢;have HR:=hid hR;clear hR;obtain ⟨r1,r2,r3,rfl,hrc⟩:=J7;obtain ⟨tb,rfl,htb,hbx,hal⟩:=J8;have hbX:Below W3.heap.size W3 X:=HR.out.be;have hbw:=HT.out.bl.trans (hbX.mono HT.out.bl.size);have HAt:=hid (AcF.step (q0:=.slice aF f.ts.length cF) (q1:=r1) (q2:=r2) (q3:=r3) (k:=⟨foldT f.ts (g.ts.take 0),f.c+g.c⟩) (⟨⟨_,_,_,_,⟨hbx,hal,zer_form X⟩⟩,hbX,htb⟩:AcF W3 X tb zerA) (Below.refl X.heap.size X) ⟨⟨aF,cF,rfl,hcF,(HF0.out.1.below termK hbw)⟩,hrc⟩);obtain ⟨an',ad',cn',cd',rfl,rfl,rfl,_⟩:=hrc.ex;obtain ⟨b0,b1,b2,b3,bff,bflt⟩:=hbx;clear hrc hal hbX hbw f0 f1 f2 f3 ft g0 g1 g2 g3 gt HAc
  go_upto_region 2 with fail
  generalize (((X.setCell ⟨tb,0,none⟩ (.slice aF f.ts.length cF)).setCell ⟨tb,1,none⟩ (.bool (ratL (f.c+g.c)).neg)).setCell ⟨tb,2,none⟩ (.slice an' (ratL (f.c+g.c)).num.length cn')).setCell ⟨tb,3,none⟩ (.slice ad' (ratL (f.c+g.c)).den.length cd')=W6 at *;clear b0 b1 b2 b3 bff bflt HR;go_wp2
  go_loopw [6] (fun i wr=>∃ j:Nat,j<=g.ts.length/\i=.int .i64 (j:Int)/\Hid (AcF W3 wr tb ⟨foldT f.ts (g.ts.take j),f.c+g.c⟩)) (fun i _=>g.ts.length - (intOf i).toNat)
  case atStart=>exact ⟨0,Nat.zero_le _,rfl,HAt.out⟩
  case round=>
   obtain ⟨j,hj,rfl,HA⟩:=hrel;obtain ⟨HTr,HB⟩:=hd2 (HT.out.below HA.out.bl) HA.out.bl;have HBw:=hid HTr.out.bl;obtain ⟨g0,g1,g2,g3,gf,glt⟩:=HTr.out.gb
   by_cases hlt:j < g.ts.length
   ·obtain ⟨bF,oF,⟨u,p⟩,p0,p1,p2,p3,haF,hbF,hx,e0,e1,e2,e3,rfl,hrc⟩:=(HG0.out.1.below termK HBw.out).pick hlt;simp only at e0 hrc;have HRc:=hid hrc;obtain ⟨an',ad',cn',cd',rfl,rfl,rfl,_⟩:=hrc.ex;obtain ⟨FJ,hFJ⟩:∃ FJ:AffQ,FJ=⟨foldT f.ts (g.ts.take j),f.c+g.c⟩:=⟨_,rfl⟩
    obtain ⟨FK,hFK⟩:∃ FK:AffQ,FK=⟨foldT f.ts (g.ts.take (j+1)),f.c+g.c⟩:=⟨_,rfl⟩
    have HFK:=hid hFK;have HStep:Hid ((⟨insT FJ.ts u p,FJ.c⟩:AffQ)=FK):=by
     unfold Hid;rw [hFJ,hFK,take_snoc hx,foldT_snoc]
    have HA1:=HA.out;rw [<- hFJ] at HA1;have HA2:=hid HA1;have hlen:FJ.ts.length<=500000:=by
     rw [hFJ];have h:=foldT_len f.ts (g.ts.take j);rw [List.length_take] at h;show (foldT f.ts (g.ts.take j)).length<=500000
     omega
    obtain ⟨sa,sn,sc,sb,san,snn,scn,sad,snd,scd,hbxs⟩:=HA1.spell;have HSf:=hid hbxs.fm.val;have hcan:FJ.Can:=by rw [hFJ];exact foldT_can HBf.out.can
    have HPl:Hid (∀ X,Below wr.heap.size wr X->Calls Tryz.prog 79 #[.agg #[.slice sa sn sc,.bool sb,.slice san snn scn,.slice sad snd scd],.int .i64 (u:Int),.agg #[.bool (ratL p).neg,.slice an' (ratL p).num.length cn',.slice ad' (ratL p).den.length cd']] X (RetAf X FK)):=fun X hb=>by
     have hp:=HPP.out;rw [HPE.out] at hp;have h:=r7Plus (v:=u) (HSf.out.below hb) (HRc.out.below hb).val hcan
      (fun t ht=>by rw [hFJ] at ht;exact (hp.b5 (fold_mem HBf.out HBg.out ht)).mono (by decide)) ((hp.b5 ((HBg.out.mem (List.mem_of_getElem? hx)).mono (by omega))).mono (by decide))
      (fun p' ht=>by rw [hFJ] at ht;exact (hp.b5 (fold_next HBf.out HBg.out hx ht)).mono (by decide)) hlen
     rw [HStep.out] at h;exact h
    have HCe:Hid (∀ X,Below wr.heap.size wr X->X.cell? ⟨tb,0,none⟩=some (.slice sa sn sc)/\X.cell? ⟨tb,1,none⟩=some (.bool sb)/\X.cell? ⟨tb,2,none⟩=some (.slice san snn scn)/\X.cell? ⟨tb,3,none⟩=some (.slice sad snd scd)/\tb < X.heap.size/\
      X.cell? ⟨w.heap.size+1,0,none⟩=some (.slice (some ⟨bF,oF,none⟩) g.ts.length cG)/\w.heap.size+1 < X.heap.size/\
      X.cell? ⟨bF,oF+j * 4,none⟩=some (.int .i64 (u:Int))/\X.cell? ⟨bF,oF+j * 4+1,none⟩=some (.bool (ratL p).neg)/\X.cell? ⟨bF,oF+j * 4+2,none⟩=some (.slice an' (ratL p).num.length cn')/\X.cell? ⟨bF,oF+j * 4+3,none⟩=some (.slice ad' (ratL p).den.length cd')/\bF < X.heap.size):=fun X hb=>by
     have hT:=HTr.out.below hb;have h0:=hbxs.bx.below hb;exact ⟨h0.c0,h0.c1,h0.c2,h0.c3,h0.lt,by rw [<- haF];exact hT.gb.c0,hT.gb.lt,(hb.cell hbF).trans e0,(hb.cell hbF).trans e1,(hb.cell hbF).trans e2,(hb.cell hbF).trans e3,Nat.lt_of_lt_of_le hbF hb.size⟩
    rw [haF];rw [haF] at g0;have HXx:=hid hx;clear hx hrc e0 e1 e2 e3 hbxs HA1 hFJ hFK hcan hlen HA
    go_upto_region 5 with fail
    clear g0 g1 g2 g3 gf glt
    refine wp_region_slots_tail 14 (by kernel_rfl) (by kernel_rfl) (by kernel_rfl) (by kernel_rfl) (by decide) (From wr.heap.size wr) (fun w w'=>Below w.heap.size w w') (GQ [.val (.agg #[.slice sa sn sc,.bool sb,.slice san snn scn,.slice sad snd scd]),.val (.pointer (some ⟨w.heap.size+1,0,none⟩)),.val (.slice (some ⟨bF,oF,none⟩) g.ts.length cG),.val (.int .i64 (j:Int)),.val (.pointer (some ⟨bF,oF+j * 4,none⟩)),.val (.pointer (some ⟨bF,oF+j * 4,none⟩)),.val (.int .i64 (u:Int)),.val (.pointer (some ⟨w.heap.size+1,0,none⟩)),.val (.slice (some ⟨bF,oF,none⟩) g.ts.length cG),.val (.int .i64 (j:Int)),.val (.pointer (some ⟨bF,oF+j * 4,none⟩)),.val (.pointer (some ⟨bF,oF+j * 4+1,none⟩)),.val (.agg #[.bool (ratL p).neg,.slice an' (ratL p).num.length cn',.slice ad' (ratL p).den.length cd']),.frm FK]) (fun i v w w' h hb=>GQ_below h hb) (From.start (Nat.le_refl _)) ?_ ?_
    ·intro ops;simp only [List.take_succ_cons,List.take_zero,Shows]
     refine ⟨?v0,?v1,?v2,?v3,?v4,?v5,?v6,?v7,?v8,?v9,?v10,?v11,?v12,?_,trivial⟩
     all_goals (intro y' X hR hL;have hB:=hR.base;obtain ⟨t0,t1,t2,t3,tlt,g0,glt,e0,e1,e2,e3,elt⟩:=HCe.out X hR.be;simp only [Laid,Region.binds,forall_const,Bool.false_eq_true,false_implies,GQ,List.getElem?_cons_zero,List.getElem?_cons_succ] at hL;simp [fillFrom,Act.put])
     case v0|v1|v2|v3|v4|v5|v6|v7|v8|v9|v10|v11|v12=>
      try simp only [hL]
      clear hL;have HR:=hid hR;clear hR;go_wp2
      first | refine ⟨_,rfl,?_⟩ | skip
      exact ⟨HR.out,Below.refl _ _,rfl⟩
     ·try simp only [hL]
      clear hL;have HR:=hid hR;clear hR;have HCt:=hid (HPl.out X HR.out.be)
      go_wp2_with fail
      refine HCt.out.mono ?_
      rintro e w1 ⟨v1,rfl,kv,kb⟩;obtain ⟨KV,KB⟩:=hd2 kv kb;clear kv kb HCt;go_wp2
      first | refine ⟨_,rfl,?_⟩ | skip
      exact ⟨⟨Nat.le_trans HR.out.base KB.out.size,HR.out.be.trans (KB.out.mono HR.out.base)⟩,KB.out,KV.out⟩
    ·intro ops y' X hR hL;have hB:=hR.base;have J13:=hL.2;simp only [GQ,List.getElem?_cons_zero,List.getElem?_cons_succ] at J13;obtain ⟨t0,t1,t2,t3,tlt,g0,glt,e0,e1,e2,e3,elt⟩:=HCe.out X hR.be;clear hL;simp only [List.take_succ_cons,List.take_zero,List.drop_succ_cons,List.drop_zero];simp [fillFrom,Act.put];generalize y' 13=y13 at J13 ⊢;have HR:=hid hR;clear hR;obtain ⟨ra,rn,rc,rb,ran,rnn,rcn,rad,rnd,rcd,rfl⟩:=J13.spell;have HSt:=hid (HA2.out.step (show Below wr.heap.size wr X from HR.out.be) J13.fp);obtain ⟨_,_,_,_,hbz⟩:=(HA2.out.below (show Below wr.heap.size wr X from HR.out.be)).ex;obtain ⟨s0,s1,s2,s3,sff,slt⟩:=hbz.bx;rw [HFK.out] at HSt;clear J13 hbz t0 t1 t2 t3 tlt g0 glt e0 e1 e2 e3 elt;go_wp2;go_roundw
     case rel=>exact ⟨j+1,hlt,by go_num,HSt.out⟩
     case measure=>simp [intOf];omega
   ·obtain rfl:j=g.ts.length:=by omega
    have hA:=HA.out;rw [List.take_of_length_le (Nat.le_refl _), <- HRR.out] at hA;obtain ⟨sa,sn,sc,sb,san,snn,scn,sad,snd,scd,hbxs⟩:=hA.spell;obtain ⟨⟨a',c',e',hcc,htm⟩,hrc⟩:=hbxs.fm;simp only [Value.slice.injEq] at e';obtain ⟨rfl,e2,rfl⟩:=e';obtain ⟨TS,hTS⟩:∃ TS,TS=RR.ts:=⟨_,rfl⟩
    obtain ⟨KC,hKC⟩:∃ KC,KC=RR.c:=⟨_,rfl⟩
    rw [<- hTS] at htm e2 hcc;rw [<- hKC] at hrc;obtain ⟨news,hsrc,_,hel⟩:=Row4.src termK htm;rw [<- e2] at hsrc hcc;have hsn:sn<=500000:=by
     rw [e2,hTS,HRR.out];have h:=foldT_len f.ts g.ts;show (foldT f.ts g.ts).length<=500000
     omega
    obtain ⟨HSrc,HEl,HRc,HSn,HTS⟩:=hd5 hsrc hel hrc e2.symm (And.intro hTS hKC);have HCe:Hid (∀ X,Below wr.heap.size wr X->X.cell? ⟨tb,0,none⟩=some (.slice sa sn sc)/\X.cell? ⟨tb,1,none⟩=some (.bool sb)/\X.cell? ⟨tb,2,none⟩=some (.slice san snn scn)/\X.cell? ⟨tb,3,none⟩=some (.slice sad snd scd)/\tb < X.heap.size):=fun X hb=>by
     have h0:=hbxs.bx.below hb;exact ⟨h0.c0,h0.c1,h0.c2,h0.c3,h0.lt⟩
    clear hA hbxs htm hrc hsrc hel hTS hKC e2 hcc HA
    go_upto_region 6 with fail
    clear g0 g1 g2 g3 gf glt
    refine wp_region_slots_gen 7 (by kernel_rfl) (by kernel_rfl) (by kernel_rfl) (by kernel_rfl) (by decide) (CpJ wr (.pointer (some ⟨tb,0,none⟩)) (.slice sa sn sc) (.pointer (some ⟨tb,1,none⟩)) (.bool sb) (.slice san snn scn) (.slice sad snd scd) sn TS) (fun g=>CpJ.start g) ?_ ?_
    ·intro ops;simp only [List.take_succ_cons,List.take_zero,ShowsJ]
     refine ⟨?_,?_,?_,?_,?_,?_,?_,trivial⟩
     all_goals (intro d y' X hJ hd hW;simp only [Waits,Region.binds,forall_const,Bool.false_eq_true,false_implies,and_true,true_and] at hW)
     ·have HJ:=hid hJ;clear hJ hW;simp [fillFrom,Act.put];go_wp2
      first | exact ⟨_,rfl,HJ.out.s0⟩ | exact HJ.out.s0
     ·have HJ:=hid hJ;clear hJ hW;simp [fillFrom,Act.put];go_wp2
      first | exact ⟨_,rfl,HJ.out.sv (.inl ⟨rfl,rfl⟩)⟩ | exact HJ.out.sv (.inl ⟨rfl,rfl⟩)
     ·have h1:d 1=true:=by simp only [hW]
      obtain ⟨HJ,HV1⟩:=hd2 hJ (hJ.v1 h1);obtain ⟨t0,t1,t2,t3,tlt⟩:=HCe.out X hJ.be;clear hJ hW h1;simp [fillFrom,Act.put];generalize hy1:y' 1=y1;obtain rfl:=hy1.symm.trans HV1.out;go_wp2
      first | exact ⟨_,rfl,HJ.out.sv (.inr (.inl ⟨rfl,rfl⟩))⟩ | exact HJ.out.sv (.inr (.inl ⟨rfl,rfl⟩))
     ·have h0:d 0=true:=by simp only [hW]
      have h2:d 2=true:=by simp only [hW]
      have HJ:=hid hJ;obtain ⟨bb,e0,hbb,hh⟩:=hJ.v0 h0 hd;obtain ⟨HV0,HV2,HOe,HD⟩:=hd4 e0 (hJ.v2 h2) (own_empty (T:=84) (size:=4) hh hbb) hd;clear e0 hh hbb hd;clear hJ hW h0 h2;simp [fillFrom,Act.put];generalize hy0:y' 0=y0;obtain rfl:=hy0.symm.trans HV0.out;generalize hy2:y' 2=y2;obtain rfl:=hy2.symm.trans HV2.out
      go_wp2_with (at_builtin;go_loud (refine wpList_append_src rfl (.tmp 36) (.tmp 38) 47 47 rfl wr.heap.size 84 (.agg #[.int .i64 0,.bool false,.slice none 0 0,.slice none 0 0]) 4 64 Tryz.underlying47 Tryz.underlying47 (by kernel_rfl) rfl (by omega) (.slice (some ⟨bb,0,none⟩) 0 0) 0 [] rfl HOe.out sa sn sc news rfl (HSrc.out.below HJ.out.be) (by omega) (by unfold maxLen;omega) HJ.out.be.size ?_;intro v' w5 hown hg hnx;have HS3:=hid (cp_app HJ.out HD.out HSn.out HEl.out hsn HOe.out hown hg);obtain ⟨b5,c5,rfl,_⟩:=own_form4 hown;clear hown hg hnx))
      rw [Nat.zero_add] at HS3 ⊢
      first | exact ⟨_,rfl,HS3.out⟩ | exact HS3.out
     ·have HJ:=hid hJ;clear hJ hW;simp [fillFrom,Act.put];go_wp2
      first | exact ⟨_,rfl,HJ.out.sv (.inr (.inr (.inl ⟨rfl,rfl⟩)))⟩ | exact HJ.out.sv (.inr (.inr (.inl ⟨rfl,rfl⟩)))
     ·have h4:d 4=true:=by simp only [hW]
      obtain ⟨HJ,HV4⟩:=hd2 hJ (hJ.v4 h4);obtain ⟨t0,t1,t2,t3,tlt⟩:=HCe.out X hJ.be;clear hJ hW h4;simp [fillFrom,Act.put];generalize hy4:y' 4=y4;obtain rfl:=hy4.symm.trans HV4.out;go_wp2
      first | exact ⟨_,rfl,HJ.out.sv (.inr (.inr (.inr ⟨rfl,rfl⟩)))⟩ | exact HJ.out.sv (.inr (.inr (.inr ⟨rfl,rfl⟩)))
     ·have h3:d 3=true:=by simp only [hW]
      have h5:d 5=true:=by simp only [hW]
      have HJ:=hid hJ;obtain ⟨b3,c3,e3,l3,tm3⟩:=hJ.v3 h3;obtain ⟨HV3,HV5,HTm,HH3⟩:=hd4 e3 (hJ.v5 h5) tm3 h3;clear e3 tm3;clear hJ hW h3 h5;simp [fillFrom,Act.put];generalize hy3:y' 3=y3;generalize hy5:y' 5=y5;obtain rfl:=hy3.symm.trans HV3.out;obtain rfl:=hy5.symm.trans HV5.out;go_wp2
      first | exact ⟨_,rfl,HJ.out.s6 HH3.out l3 HTm.out⟩ | exact HJ.out.s6 HH3.out l3 HTm.out
    ·intro ops d y' X hA hJ;obtain ⟨b6,c6,e6,l6,tm6⟩:=hJ.v6 (hA 6 (by decide));obtain ⟨HV6,HBX⟩:=hd2 e6 hJ.be;have hTX:=HTr.out.below hJ.be;have hfm:FormV X (.agg #[.slice b6 sn c6,.bool sb,.slice san snn scn,.slice sad snd scd]) RR:=⟨_,_,_,_,rfl,⟨b6,c6,by rw [<- HTS.out.1,HSn.out],by rw [<- HTS.out.1,HSn.out];exact l6,by rw [<- HTS.out.1];exact tm6⟩,by rw [<- HTS.out.2];exact HRc.out.below hJ.be⟩
     have HO:=hid (hfm.ret hTX.nr hTX.bl (by omega));obtain ⟨r0,r1,r2,r3,rf,rlt⟩:=hTX.rb;clear e6 tm6 hJ hA hTX hfm;simp only [List.take_succ_cons,List.take_zero,List.drop_succ_cons,List.drop_zero];simp [fillFrom,Act.put];generalize hy6:y' 6=y6;obtain rfl:=hy6.symm.trans HV6.out;go_wp2;exact bodyPost_ret (by simp [results,Tryz.results48,go_sem,r0,r1,r2,r3,rlt,Nat.ne_of_lt rlt]) rfl HO.out
theorem bd_neg1:Bd 1 1 (-1):=⟨by omega, -1,by rw [Rat.mkRat_one];rfl,by decide⟩
theorem r7Sub {w:World} {vf vg:Value} {f g:AffQ} {D B C N:Nat} (hf:FormV w vf f) (hg:FormV w vg g) (bf:BdF D B N f) (bg:BdF D C N g) (hP:Pay D (B+C)) (hN:N<=250000):
  Calls Tryz.prog 28 #[vf,vg] w (RetAf w (addA (-1) f g)):=by
 have hsg:BdF D C N (scA (-1) g):=by
  have h:=BdF.sc bd_neg1 bg
  rwa [Nat.one_mul,Nat.one_mul] at h
 have c1:∀ t ∈ g.ts,RatLe (ratL t.2) 1048575:=fun t ht=>(hP.b5 ((bg.mem ht).mono (by omega))).mono (by decide)
 have c2:RatLe (ratL g.c) 1048575:=(hP.b5 (bg.c.mono (by omega))).mono (by decide);have c3:RatLe (ratL (-1)) 1048575:=(bd_neg1.le (k:=1) (by decide)).mono (by decide);have c4:∀ t ∈ g.ts,RatLe (ratL (t.2 * (-1))) 1048576:=fun t ht=>by
  have h:=(Bd.zero (B:=0) bg.pos).sub (bg.mem ht);rw [show (0:Rat) - t.2=t.2 * (-1) by grind] at h;exact (hP.b5 (h.mono (by omega))).mono (by decide)
 have hlG:g.ts.length<=500000:=by have:=bg.few;omega
 have hcG:=bg.can;have HAd0:Hid (∀ (X:World) (v u:Value),FormV X v f->FormV X u (scA (-1) g)->Calls Tryz.prog 48 #[v,u] X (RetAf X (addA (-1) f g))):=fun X v u h1 h2=>by
  have h:=r7Add h1 h2 bf hsg hP hN
  rwa [subA_add] at h
 obtain ⟨aF,cF,fan,fad,fcn,fcd,rfl,hcF,htF,l1,l2,u1,u2⟩:=hf.parts;obtain ⟨aG,cG,gan,gad,gcn,gcd,rfl,hcG2,htG,m1,m2,v1,v2⟩:=hg.parts;obtain ⟨HF,HG⟩:=hd2 hf hg;obtain ⟨RR,hRR⟩:∃ RR,RR=addA (-1) f g:=⟨_,rfl⟩
 obtain ⟨SG,hSG⟩:∃ SG,SG=scA (-1) g:=⟨_,rfl⟩
 rw [<- hRR, <- hSG] at HAd0;rw [<- hRR];have HT:=hid (TwoF.mk' w (.slice aF f.ts.length cF) (.bool (ratL f.c).neg) (.slice fan (ratL f.c).num.length fcn) (.slice fad (ratL f.c).den.length fcd) (.slice aG g.ts.length cG) (.bool (ratL g.c).neg) (.slice gan (ratL g.c).num.length gcn) (.slice gad (ratL g.c).den.length gcd) 53);have HSc0:Hid (∀ (X:World) (v u:Value),FormV X v g->RatV X u (ratL (-1))->Calls Tryz.prog 49 #[v,u] X (RetAf X SG)):=fun X v u h1 h2=>by
  rw [hSG];exact r7Scale h1 h2 hcG c1 c2 c3 c4 hlG
 have HOf:Hid (∀ X,Calls Tryz.prog 27 #[.int .i64 (-1)] X (RetR X (ratL (-1)))):=fun X=>by
  have h:=r3Of X (-1) (by decide) (by decide);exact h
 clear hf hg bf bg hP htF htG u1 u2 v1 v2 hRR hSG l1 l2 m1 m2 hsg c1 c2 c3 c4 hcG hlG
 go_enter Tryz.func28,Tryz.ntmps28
 go_upto_region 1 with fail
 generalize ((w.alloc (.cells #[.slice aF f.ts.length cF,.bool (ratL f.c).neg,.slice fan (ratL f.c).num.length fcn,.slice fad (ratL f.c).den.length fcd] 53)).alloc (.cells #[.slice aG g.ts.length cG,.bool (ratL g.c).neg,.slice gan (ratL g.c).num.length gcn,.slice gad (ratL g.c).den.length gcd] 53)).alloc (.cells #[.slice none 0 0,.bool false,.slice none 0 0,.slice none 0 0] 53)=W3 at *;have HSc:Hid (∀ X,Below W3.heap.size W3 X->∀ u,RatV X u (ratL (-1))->Calls Tryz.prog 49 #[.agg #[.slice aG g.ts.length cG,.bool (ratL g.c).neg,.slice gan (ratL g.c).num.length gcn,.slice gad (ratL g.c).den.length gcd],u] X (RetAf X SG)):=fun X hb u hu=>HSc0.out X _ u (HG.out.below (HT.out.bl.trans (hb.mono HT.out.bl.size))) hu
 have HAd:Hid (∀ X,Below W3.heap.size W3 X->∀ u,FormV X u SG->Calls Tryz.prog 48 #[.agg #[.slice aF f.ts.length cF,.bool (ratL f.c).neg,.slice fan (ratL f.c).num.length fcn,.slice fad (ratL f.c).den.length fcd],u] X (RetAf X RR)):=fun X hb u hu=>HAd0.out X _ u (HF.out.below (HT.out.bl.trans (hb.mono HT.out.bl.size))) hu
 refine wp_region_slots_tail 5 (by kernel_rfl) (by kernel_rfl) (by kernel_rfl) (by kernel_rfl) (by decide) (From W3.heap.size W3) (fun w w'=>Below w.heap.size w w') (GQ [.val (.agg #[.slice aF f.ts.length cF,.bool (ratL f.c).neg,.slice fan (ratL f.c).num.length fcn,.slice fad (ratL f.c).den.length fcd]),.val (.agg #[.slice aG g.ts.length cG,.bool (ratL g.c).neg,.slice gan (ratL g.c).num.length gcn,.slice gad (ratL g.c).den.length gcd]),.rat (-1),.frm SG,.frm RR]) (fun i v w w' h hb=>GQ_below h hb) (From.start (Nat.le_refl _)) ?_ ?_
 ·intro ops;simp only [List.take_succ_cons,List.take_zero,Shows]
  refine ⟨?v0,?v1,?_,?_,?_,trivial⟩
  all_goals (intro y' X hR hL;have hB:=hR.base;have HT2:=hid (HT.out.below hR.be);obtain ⟨f0,f1,f2,f3,_,ft⟩:=HT2.out.fb;obtain ⟨g0,g1,g2,g3,_,gt⟩:=HT2.out.gb;simp only [Laid,Region.binds,forall_const,Bool.false_eq_true,false_implies,GQ,List.getElem?_cons_zero,List.getElem?_cons_succ] at hL;simp [fillFrom,Act.put])
  case v0|v1=>
   try simp only [hL]
   clear hL;have HR:=hid hR;clear hR;go_wp2
   first | refine ⟨_,rfl,?_⟩ | skip
   exact ⟨HR.out,Below.refl _ _,rfl⟩
  ·try simp only [hL]
   clear hL;have HR:=hid hR;clear hR;have HCt:=hid (HOf.out X)
   go_wp2_with fail
   refine HCt.out.mono ?_
   rintro e w1 ⟨v1,rfl,kv,kb⟩;obtain ⟨KV,KB⟩:=hd2 kv kb;clear kv kb HCt;go_wp2
   first | refine ⟨_,rfl,?_⟩ | skip
   exact ⟨⟨Nat.le_trans HR.out.base KB.out.size,HR.out.be.trans (KB.out.mono HR.out.base)⟩,KB.out,KV.out⟩
  ·generalize y' 1=y1 at hL ⊢;generalize y' 2=y2 at hL ⊢;obtain ⟨rfl,H2,_,_⟩:=hL;obtain ⟨K2,HR⟩:=hd2 H2 hR;clear hR H2;have HCt:=hid (HSc.out X HR.out.be _ K2.out)
   go_wp2_with fail
   refine HCt.out.mono ?_
   rintro e w1 ⟨v1,rfl,kv,kb⟩;obtain ⟨KV,KB⟩:=hd2 kv kb;clear kv kb HCt;go_wp2
   first | refine ⟨_,rfl,?_⟩ | skip
   exact ⟨⟨Nat.le_trans HR.out.base KB.out.size,HR.out.be.trans (KB.out.mono HR.out.base)⟩,KB.out,KV.out⟩
  ·generalize y' 0=y0 at hL ⊢;generalize y' 3=y3 at hL ⊢;obtain ⟨rfl,H3,_,_⟩:=hL;obtain ⟨K3,HR⟩:=hd2 H3 hR;clear hR H3;have HCt:=hid (HAd.out X HR.out.be _ K3.out)
   go_wp2_with fail
   refine HCt.out.mono ?_
   rintro e w1 ⟨v1,rfl,kv,kb⟩;obtain ⟨KV,KB⟩:=hd2 kv kb;clear kv kb HCt;go_wp2
   first | refine ⟨_,rfl,?_⟩ | skip
   exact ⟨⟨Nat.le_trans HR.out.base KB.out.size,HR.out.be.trans (KB.out.mono HR.out.base)⟩,KB.out,KV.out⟩
 ·intro ops y' X hR hL;have hB:=hR.base;have J4:=hL.2;simp only [GQ,List.getElem?_cons_zero,List.getElem?_cons_succ] at J4;have HT2:=hid (HT.out.below hR.be);obtain ⟨f0,f1,f2,f3,_,ft⟩:=HT2.out.fb;obtain ⟨g0,g1,g2,g3,_,gt⟩:=HT2.out.gb;clear hL;simp only [List.take_succ_cons,List.take_zero,List.drop_succ_cons,List.drop_zero];simp [fillFrom,Act.put];generalize y' 4=y4 at J4 ⊢;have HR:=hid hR;clear hR;have HV:=hid J4;obtain ⟨a5,c5,n5,d5,e5,g5,rfl,_⟩:=J4.parts;clear J4 f0 f1 f2 f3 ft g0 g1 g2 g3 gt;obtain ⟨r0,r1,r2,r3,rf,rlt⟩:=HT2.out.rb;have HO:=hid (HV.out.ret HT2.out.nr HT2.out.bl (by omega));clear HV;go_wp2;exact bodyPost_ret (by simp [results,Tryz.results28,go_sem,r0,r1,r2,r3,rlt,Nat.ne_of_lt rlt]) rfl HO.out
theorem rats2_alloc {w:World} {p q:RatL} {an ad bn bd:Option Addr} {cn cd dn dd:Nat} (b2:p.num.length<=cn) (b3:p.den.length<=cd) (b4:U32s w an p.num) (b5:U32s w ad p.den) (g2:q.num.length<=dn) (g3:q.den.length<=dd) (g4:U32s w bn q.num) (g5:U32s w bd q.den) (T:Nat):
  RatsAt (w.alloc (.cells #[.bool p.neg,.slice an p.num.length cn,.slice ad p.den.length cd,.bool q.neg,.slice bn q.num.length dn,.slice bd q.den.length dd] T)) (some ⟨w.heap.size,0,none⟩) [p,q]:=by
 have hal:=blA w (.cells #[.bool p.neg,.slice an p.num.length cn,.slice ad p.den.length cd,.bool q.neg,.slice bn q.num.length dn,.slice bd q.den.length dd] T)
 refine ⟨by simp,.inr ⟨w.heap.size,0,rfl,by simp,fun j x hj=>?_⟩⟩
 match j,hj with
 | 0,hj=>
  simp at hj;subst hj;exact ⟨an,ad,cn,cd,by rw [World.cell?_alloc_at _ _ _ _ rfl];rfl,by rw [World.cell?_alloc_at _ _ _ _ rfl];rfl,by rw [World.cell?_alloc_at _ _ _ _ rfl];rfl,⟨an,ad,cn,cd,rfl,b2,b3,b4.below hal,b5.below hal⟩⟩
 | 1,hj=>
  simp at hj;subst hj;exact ⟨bn,bd,dn,dd,by rw [World.cell?_alloc_at _ _ _ _ rfl];rfl,by rw [World.cell?_alloc_at _ _ _ _ rfl];rfl,by rw [World.cell?_alloc_at _ _ _ _ rfl];rfl,⟨bn,bd,dn,dd,rfl,g2,g3,g4.below hal,g5.below hal⟩⟩
theorem rats1_alloc {w:World} {p:RatL} {an ad:Option Addr} {cn cd:Nat} (b2:p.num.length<=cn) (b3:p.den.length<=cd) (b4:U32s w an p.num) (b5:U32s w ad p.den) (T:Nat):
  RatsAt (w.alloc (.cells #[.bool p.neg,.slice an p.num.length cn,.slice ad p.den.length cd] T)) (some ⟨w.heap.size,0,none⟩) [p]:=by
 have hal:=blA w (.cells #[.bool p.neg,.slice an p.num.length cn,.slice ad p.den.length cd] T)
 refine ⟨by simp,.inr ⟨w.heap.size,0,rfl,by simp,fun j x hj=>?_⟩⟩
 match j,hj with
 | 0,hj=>
  simp at hj;subst hj;exact ⟨an,ad,cn,cd,by rw [World.cell?_alloc_at _ _ _ _ rfl];rfl,by rw [World.cell?_alloc_at _ _ _ _ rfl];rfl,by rw [World.cell?_alloc_at _ _ _ _ rfl];rfl,⟨an,ad,cn,cd,rfl,b2,b3,b4.below hal,b5.below hal⟩⟩
theorem ex_mem {w w1 w2:World} {p q:RatL} {an ad bn bd:Option Addr} {cn cd dn dd:Nat} (hp:p=ratL 1) (hq:q=ratL (-1)) (kb1:Below (w.alloc (.cells #[.int .i64 2] 3)).heap.size (w.alloc (.cells #[.int .i64 2] 3)) w1) (kb2:Below w1.heap.size w1 w2)
  (b2:p.num.length<=cn) (b3:p.den.length<=cd) (b4:U32s w1 an p.num) (b5:U32s w1 ad p.den) (g2:q.num.length<=dn) (g3:q.den.length<=dd) (g4:U32s w2 bn q.num) (g5:U32s w2 bd q.den) {A:World}
  (hA:A=((((w2.alloc (.cells #[.bool p.neg,.slice an p.num.length cn,.slice ad p.den.length cd,.bool q.neg,.slice bn q.num.length dn,.slice bd q.den.length dd] 51)).alloc (zerO 51)).alloc
   (.cells #[.int .i64 1,.int .i64 0,.int .i64 1,.int .i64 0,.int .i64 0,.int .i64 0,.int .i64 0,.slice (some ⟨w2.heap.size,0,none⟩) 2 2,.slice (some ⟨w2.heap.size+1,0,none⟩) 1 1,.int .i64 5,.int .i64 0,.int .i64 0,.int .i64 0,.int .i64 0,.int .i64 0,.int .i64 0,.slice none 0 0,.slice none 0 0] 44)).alloc
   (.cells #[.slice (some ⟨w.heap.size,0,none⟩) 1 1,.slice (some ⟨w2.heap.size+1+1,0,none⟩) 2 2] 25))):
  Ints A Any (some ⟨w.heap.size,0,none⟩) [2]/\LaysAt A (some ⟨w2.heap.size+1+1,0,none⟩) [exD,exR]/\A.cell? ⟨w2.heap.size+1+1+1,0,none⟩=some (.slice (some ⟨w.heap.size,0,none⟩) 1 1)/\A.cell? ⟨w2.heap.size+1+1+1,1,none⟩=some (.slice (some ⟨w2.heap.size+1+1,0,none⟩) 2 2)/\
   w2.heap.size+1+1+1 < A.heap.size/\Below w.heap.size w A:=by
 have hst:=fun (W:World) (o:Obj)=>(Below.refl W.heap.size W).alloc (Nat.le_refl _) o
 have hW:=rats2_alloc b2 b3 (b4.below kb2) (b5.below kb2) g2 g3 g4 g5 51;have m1:=hst w2 (.cells #[.bool p.neg,.slice an p.num.length cn,.slice ad p.den.length cd,.bool q.neg,.slice bn q.num.length dn,.slice bd q.den.length dd] 51);have s1:(w2.alloc (.cells #[.bool p.neg,.slice an p.num.length cn,.slice ad p.den.length cd,.bool q.neg,.slice bn q.num.length dn,.slice bd q.den.length dd] 51)).heap.size=w2.heap.size+1:=by simp
 generalize w2.alloc (.cells #[.bool p.neg,.slice an p.num.length cn,.slice ad p.den.length cd,.bool q.neg,.slice bn q.num.length dn,.slice bd q.den.length dd] 51)=A1 at *;have hZ:=rats1_alloc (w:=A1) (p:=⟨false,[],[]⟩) (an:=none) (ad:=none) (cn:=0) (cd:=0) (Nat.le_refl _) (Nat.le_refl _) (U32s.nil _ _) (U32s.nil _ _) 51;have m2:=hst A1 (zerO 51);have s2:(A1.alloc (zerO 51)).heap.size=w2.heap.size+1+1:=by simp [s1]
 simp only [List.length_nil] at hZ;generalize A1.alloc (zerO 51)=A2 at *;have m3:=hst A2 (.cells #[.int .i64 1,.int .i64 0,.int .i64 1,.int .i64 0,.int .i64 0,.int .i64 0,.int .i64 0,.slice (some ⟨w2.heap.size,0,none⟩) 2 2,.slice (some ⟨w2.heap.size+1,0,none⟩) 1 1,.int .i64 5,.int .i64 0,.int .i64 0,.int .i64 0,.int .i64 0,.int .i64 0,.int .i64 0,.slice none 0 0,.slice none 0 0] 44);have hc:∀ i v,(#[.int .i64 1,.int .i64 0,.int .i64 1,.int .i64 0,.int .i64 0,.int .i64 0,.int .i64 0,.slice (some ⟨w2.heap.size,0,none⟩) 2 2,.slice (some ⟨w2.heap.size+1,0,none⟩) 1 1,.int .i64 5,.int .i64 0,.int .i64 0,.int .i64 0,.int .i64 0,.int .i64 0,.int .i64 0,.slice none 0 0,.slice none 0 0]:Array Value)[i]? =some v->
   (A2.alloc (.cells #[.int .i64 1,.int .i64 0,.int .i64 1,.int .i64 0,.int .i64 0,.int .i64 0,.int .i64 0,.slice (some ⟨w2.heap.size,0,none⟩) 2 2,.slice (some ⟨w2.heap.size+1,0,none⟩) 1 1,.int .i64 5,.int .i64 0,.int .i64 0,.int .i64 0,.int .i64 0,.int .i64 0,.int .i64 0,.slice none 0 0,.slice none 0 0] 44)).cell? ⟨w2.heap.size+1+1,i,none⟩=some v:=by
  intro i v h;rw [World.cell?_alloc_at _ _ _ _ s2.symm];exact h
 have s3:(A2.alloc (.cells #[.int .i64 1,.int .i64 0,.int .i64 1,.int .i64 0,.int .i64 0,.int .i64 0,.int .i64 0,.slice (some ⟨w2.heap.size,0,none⟩) 2 2,.slice (some ⟨w2.heap.size+1,0,none⟩) 1 1,.int .i64 5,.int .i64 0,.int .i64 0,.int .i64 0,.int .i64 0,.int .i64 0,.int .i64 0,.slice none 0 0,.slice none 0 0] 44)).heap.size=w2.heap.size+1+1+1:=by simp [s2]
 generalize A2.alloc (.cells #[.int .i64 1,.int .i64 0,.int .i64 1,.int .i64 0,.int .i64 0,.int .i64 0,.int .i64 0,.slice (some ⟨w2.heap.size,0,none⟩) 2 2,.slice (some ⟨w2.heap.size+1,0,none⟩) 1 1,.int .i64 5,.int .i64 0,.int .i64 0,.int .i64 0,.int .i64 0,.int .i64 0,.int .i64 0,.slice none 0 0,.slice none 0 0] 44)=A3 at *;have m4:=hst A3 (.cells #[.slice (some ⟨w.heap.size,0,none⟩) 1 1,.slice (some ⟨w2.heap.size+1+1,0,none⟩) 2 2] 25);have hb2:=Box2.alloc A3 (.slice (some ⟨w.heap.size,0,none⟩) 1 1) (.slice (some ⟨w2.heap.size+1+1,0,none⟩) 2 2) 25;rw [<- hA] at m4 hb2;rw [s3] at hb2;have hi:=ints1_of (x:=2) (by unfold I64;omega) (show (w.alloc (.cells #[.int .i64 2] 3)).cell? ⟨w.heap.size,0,none⟩=some (.int .i64 2) by rw [World.cell?_alloc_at _ _ _ _ rfl];rfl) (by simp);have t1:=kb1.trans (kb2.mono kb1.size);have t2:=t1.trans (m1.mono t1.size);have t3:=t2.trans (m2.mono t2.size);have t4:=t3.trans (m3.mono t3.size);have t5:=t4.trans (m4.mono t4.size);have u0:=hst w (.cells #[.int .i64 2] 3)
 refine ⟨hi.below t5,⟨by simp,.inr ⟨_,0,rfl,by have:=m4.size;omega,fun j x hj=>?_⟩⟩,hb2.c0,hb2.c1,hb2.lt,u0.trans (t5.mono u0.size)⟩
 have r34:∀ i v,A3.cell? ⟨w2.heap.size+1+1,i,none⟩=some v->A.cell? ⟨w2.heap.size+1+1,i,none⟩=some v:=fun i v h=>(m4.cell (p:=⟨w2.heap.size+1+1,i,none⟩) (by show w2.heap.size+1+1 < A3.heap.size;omega)).trans h
 match j,hj with
 | 0,hj=>
  simp at hj;subst hj
  refine ⟨some ⟨w2.heap.size,0,none⟩,some ⟨w2.heap.size+1,0,none⟩,2,1,⟨r34 _ _ (hc 0 _ rfl),r34 _ _ (hc 1 _ rfl),r34 _ _ (hc 2 _ rfl),r34 _ _ (hc 3 _ rfl),r34 _ _ (hc 4 _ rfl),r34 _ _ (hc 5 _ rfl),r34 _ _ (hc 6 _ rfl),r34 _ _ (hc 7 _ rfl),r34 _ _ (hc 8 _ rfl)⟩,?_,?_⟩
  ·show RatsAt _ _ [ratL 1,ratL (-1)]
   rw [<- hp, <- hq];exact ((hW.below m2).below m3).below m4
  ·show RatsAt _ _ [ratL 0]
   rw [ratL_zeroE];rw [s1] at hZ;exact (hZ.below m3).below m4
 | 1,hj=>
  simp at hj;subst hj;exact ⟨none,none,0,0,⟨r34 _ _ (hc 9 _ rfl),r34 _ _ (hc 10 _ rfl),r34 _ _ (hc 11 _ rfl),r34 _ _ (hc 12 _ rfl),r34 _ _ (hc 13 _ rfl),r34 _ _ (hc 14 _ rfl),r34 _ _ (hc 15 _ rfl),r34 _ _ (hc 16 _ rfl),r34 _ _ (hc 17 _ rfl)⟩,⟨by simp [exR],.inl rfl⟩,⟨by simp [exR],.inl rfl⟩⟩
theorem kLittle16 {w:World} {a:Option Addr} {L:List RatL} (c:Nat) (h:RatsAt w a L) (hL:∀ x ∈ L,RatLe x 1048576):
  Calls Tryz.prog 15 #[.slice a L.length c] w fun e w'=>e=.returned (.bool (littleL L))/\Below w.heap.size w w':=by
 have q1:=h.len;obtain ⟨H,HV⟩:=hd2 h (r3ValidAll c h hL);generalize hR:littleL L=R;unfold littleL at hR;have HR:=hid hR;clear h hL hR
 go_enter Tryz.func15,Tryz.ntmps15
 go_wp2
 go_loopw [3] (fun i wr=>∃ j:Nat,j<=L.length/\i=.int .i64 (j:Int)/\Hid ((L.take j).all smallR=true)/\Hid (w=wr)) (fun i _=>L.length - (intOf i).toNat)
 case atStart=>exact ⟨0,Nat.zero_le _,rfl,rfl,rfl⟩
 case round=>
  obtain ⟨j,hj,rfl,HA,HW⟩:=hrel;have ew:=HW.out;clear HW;subst ew
  by_cases hlt:j < L.length
  ·obtain ⟨b,off,x,an,ad,cn,cd,rfl,hb,hx,x0,x1,x2,hv⟩:=H.out.pick hlt;obtain ⟨HT,HM⟩:=hd2 (allR_take hx) (List.mem_of_getElem? hx);clear hx hv
   by_cases g1:x.num.length<=2
   ·by_cases g2:x.den.length<=1
    ·have HA2:Hid ((L.take (j+1)).all smallR=true):=by unfold Hid;rw [HT.out,HA.out];unfold smallR;rw [decide_eq_true g1,decide_eq_true g2];rfl
     go_wp2;go_roundw
     case rel=>exact ⟨j+1,hlt,by go_num,HA2.out,by first | rfl | exact True.intro⟩
     case measure=>simp [intOf];omega
    ·have HF:Hid (R=false):=by
      unfold Hid;have:L.all smallR=false:=by rw [List.all_eq_false];exact ⟨x,HM.out,by simp [smallR,g2]⟩
      rw [<- HR.out,this];rfl
     go_wp2;go_ret;exact ⟨ret_bool HF.out.symm,Below.refl _ _⟩
   ·have HF:Hid (R=false):=by
     unfold Hid;have:L.all smallR=false:=by rw [List.all_eq_false];exact ⟨x,HM.out,by simp [smallR,g1]⟩
     rw [<- HR.out,this];rfl
    go_wp2;go_ret;exact ⟨ret_bool HF.out.symm,Below.refl _ _⟩
  ·obtain rfl:j=L.length:=by omega
   have HE:Hid (L.all validR=R):=by
    have:=HA.out;rw [List.take_length] at this;unfold Hid;rw [<- HR.out,this];rfl
   go_wp2_with fail
   refine HV.out.mono ?_
   rintro e w' ⟨rfl,hb⟩;have HB:=hid hb;clear hb;rw [HE.out];go_wp2;go_ret;exact ⟨rfl,HB.out⟩
theorem kFair16 {w:World} {m:ModL} {a1 a2:Option Addr} (c1 c2:Nat) (h1:Ints w Any a1 m.input) (h2:LaysAt w a2 m.layers) (hs:∀ l ∈ m.layers,LayLe l):
  Calls Tryz.prog 11 #[.agg #[.slice a1 m.input.length c1,.slice a2 m.layers.length c2]] w fun e w'=>e=.returned (.bool (fairE m []))/\Below w.heap.size w w':=by
 have q1:=h1.len;have q2:=h2.len;obtain ⟨H1,H2,HSh⟩:=hd3 h1 h2 hs;generalize hR:fairE m []=R;unfold fairE at hR;have HRd:=hid hR;have hbA:=blA w (.cells #[.slice a1 m.input.length c1,.slice a2 m.layers.length c2] 25);have hx:=Box2.alloc w (.slice a1 m.input.length c1) (.slice a2 m.layers.length c2) 25;clear h1 h2 hR hs
 go_enter Tryz.func11,Tryz.ntmps11
 go_upto_region 1 with fail
 generalize w.alloc (.cells #[.slice a1 m.input.length c1,.slice a2 m.layers.length c2] 25)=W at *;obtain ⟨HB,HX⟩:=hd2 hbA hx;clear hbA hx;obtain ⟨x0,x1,xf,xlt⟩:=HX.out;have HS:=hid (rSize c1 (H1.out.below HB.out));generalize hsz:sizeL m.input=sz at *;clear hsz
 by_cases e1:m.layers.length<=8
 case neg=>
  have HF:Hid (R=false):=by unfold Hid;rw [<- HRd.out,decide_eq_false e1];rfl
  go_wp2;go_ret;exact ⟨ret_bool HF.out.symm,HB.out⟩
 by_cases e2:sz<=30
 case neg=>
  have HF:Hid (R=false):=by unfold Hid;rw [<- HRd.out,decide_eq_false e2,Bool.false_and,Bool.and_false]
  have t2:decide (30 < sz)=true:=decide_eq_true (by omega)
  go_wp2_with fail
  refine HS.out.mono ?_
  rintro e w' ⟨rfl,rfl⟩;go_wp2;go_ret;exact ⟨ret_bool HF.out.symm,HB.out⟩
 have t2:decide (30 < sz)=false:=decide_eq_false (by omega)
 by_cases e4:m.input.length<=8
 case neg=>
  have HF:Hid (R=false):=by unfold Hid;rw [<- HRd.out,decide_eq_false e4,Bool.false_and,Bool.and_false,Bool.and_false,Bool.and_false]
  go_wp2_with fail
  refine HS.out.mono ?_
  rintro e w' ⟨rfl,rfl⟩;go_wp2;go_ret;exact ⟨ret_bool HF.out.symm,HB.out⟩
 have HRe:Hid ((m.layers.all okLay && littleL [])=R):=by have:=HRd.out;rw [decide_eq_true e1,decide_eq_true e2,decide_eq_true e4] at this;exact this
 go_wp2_with fail
 refine HS.out.mono ?_
 rintro e w' ⟨rfl,rfl⟩;go_wp2;clear x0 x1 xf xlt
 go_loopw [3] (fun i wr=>∃ j:Nat,j<=m.layers.length/\i=.int .i64 (j:Int)/\Hid ((m.layers.take j).all okLay=true)/\Hid (Below W.heap.size W wr)) (fun i _=>m.layers.length - (intOf i).toNat)
 case atStart=>exact ⟨0,Nat.zero_le _,rfl,rfl,Below.refl _ _⟩
 case round=>
  obtain ⟨j,hj,rfl,HA,HW⟩:=hrel;have HBw:=htr HB HW.out;obtain ⟨x0,x1,xf,xlt⟩:=HX.out.below HW.out
  by_cases hlt:j < m.layers.length
  ·obtain ⟨bl,ol,l,ha2,hbl,hl,b1,b2,d1,d2,⟨l0,l1,l2,l3,l4,l5,l6,l7,l8⟩,r1,r2⟩:=(H2.out.below HBw.out).pick hlt;have HT:=hid (allO_take hl);have hmem:=List.mem_of_getElem? hl;have HM:=hid hmem;have hle:=HSh.out l hmem;have p1:=r1.len;have p2:=r2.len;have hal:=blA wr (layO l b1 d1 b2 d2 44);have HAl:=htr HW hal;obtain ⟨HR1,HR2,HBx9⟩:=hd3 (r1.below hal) (r2.below hal) (Box9.alloc wr (.int .i64 l.kind) (.int .i64 l.frm) (.int .i64 l.out) (.int .i64 l.kh) (.int .i64 l.kw) (.int .i64 l.stride) (.int .i64 l.pad) (.slice b1 l.weights.length d1) (.slice b2 l.bias.length d2) 44);have HNo:Hid (okLay l=false->R=false):=fun hf=>by
    have:m.layers.all okLay=false:=by rw [List.all_eq_false];exact ⟨l,HM.out,by simp [hf]⟩
    rw [<- HRe.out,this];rfl
   have HLe:=hid hle;subst ha2;clear hl r1 r2 hal hmem hle
   go_upto_region 7 with fail
   generalize wr.alloc (layO l b1 d1 b2 d2 44)=wj at *;clear l0 l1 l2 l3 l4 l5 l6 l7 l8;obtain ⟨l0,l1,l2,l3,l4,l5,l6,l7,l8,l9⟩:=HBx9.out;have HK1:=hid (kLittle16 d1 HR1.out HLe.out.wts)
   by_cases g1:l.weights.length<=60
   case neg=>
    have HF:Hid (R=false):=HNo.out (by unfold okLay;rw [decide_eq_false g1];rfl);go_wp2;go_ret;exact ⟨ret_bool HF.out.symm,HB.out.trans (HAl.out.mono HB.out.size)⟩
   by_cases g2:l.bias.length<=60
   case neg=>
    have HF:Hid (R=false):=HNo.out (by unfold okLay;rw [decide_eq_false g2,Bool.false_and,Bool.and_false]);go_wp2;go_ret;exact ⟨ret_bool HF.out.symm,HB.out.trans (HAl.out.mono HB.out.size)⟩
   have HOk:Hid (okLay l=(littleL l.weights && littleL l.bias)):=by unfold Hid okLay;rw [decide_eq_true g1,decide_eq_true g2];rfl
   cases hk1:littleL l.weights with
   | false=>
    rw [hk1] at HK1;have HF:Hid (R=false):=HNo.out (by rw [HOk.out,hk1];rfl);clear hk1
    go_wp2_with fail
    refine HK1.out.mono ?_
    rintro e w2 ⟨rfl,hb2⟩;have HB2:=htr HAl hb2;clear hb2;go_wp2;go_ret;exact ⟨ret_bool HF.out.symm,HB.out.trans (HB2.out.mono HB.out.size)⟩
   | true=>
    rw [hk1] at HK1 HOk;rw [Bool.true_and] at HOk;clear hk1
    go_wp2_with fail
    refine HK1.out.mono ?_
    rintro e w2 ⟨rfl,hb2⟩;have HB2:=htr HAl hb2;obtain ⟨HBy,HK2⟩:=hd2 (HBx9.out.below hb2) (kLittle16 d2 (HR2.out.below hb2) HLe.out.bias);clear hb2 l0 l1 l2 l3 l4 l5 l6 l7 l8 l9 HK1;obtain ⟨l0,l1,l2,l3,l4,l5,l6,l7,l8,l9⟩:=HBy.out
    cases hk2:littleL l.bias with
    | false=>
     rw [hk2] at HK2 HOk;have HF:Hid (R=false):=HNo.out HOk.out;clear hk2
     go_wp2_with fail
     refine HK2.out.mono ?_
     rintro e w3 ⟨rfl,hb3⟩;have HB3:=htr HB2 hb3;clear hb3;go_wp2;go_ret;exact ⟨ret_bool HF.out.symm,HB.out.trans (HB3.out.mono HB.out.size)⟩
    | true=>
     rw [hk2] at HK2 HOk;have HA2:Hid ((m.layers.take (j+1)).all okLay=true):=by unfold Hid;rw [HT.out,HA.out,HOk.out];rfl
     clear hk2
     go_wp2_with fail
     refine HK2.out.mono ?_
     rintro e w3 ⟨rfl,hb3⟩;have HB3:=htr HB2 hb3;clear hb3 l0 l1 l2 l3 l4 l5 l6 l7 l8 l9;go_wp2;go_roundw
     case rel=>exact ⟨j+1,hlt,by go_num,HA2.out,HB3.out⟩
     case measure=>simp [intOf];omega
  ·obtain rfl:j=m.layers.length:=by omega
   have HE:Hid (true=R):=by
    have:=HA.out;rw [List.take_length] at this;unfold Hid;rw [<- HRe.out,this];rfl
   go_wp2;go_ret;exact ⟨ret_bool HE.out,HBw.out⟩
end Go.Proofs.YtfgmmghmmfmdgaaGreat
