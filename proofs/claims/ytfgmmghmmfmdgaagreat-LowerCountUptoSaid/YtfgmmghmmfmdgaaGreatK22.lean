/-
  Contracts of the functions that the statement reaches: RBox, EvA, RefV, EvB, OwnR, LinA, RatG.
-/
import Derived.Test.YtfgmmghmmfmdgaaGreatK21
import Derived.Test.YtfgmmghmmfmdgaaGreatK20
set_option linter.all false
set_option maxRecDepth 100000
set_option maxHeartbeats 3200000
namespace Go.Proofs.YtfgmmghmmfmdgaaGreat
open Go.RowKit
open Go.Lib (hid)
structure RBox (W:World) (g:Nat) (x:RatL):Prop where
 ex:∃ an ad cn cd,Box3 W g (.bool x.neg) (.slice an x.num.length cn) (.slice ad x.den.length cd)/\x.num.length<=cn/\x.den.length<=cd/\U32s W an x.num/\U32s W ad x.den
 nc:NoInt W g
theorem RBox.lt {W:World} {g:Nat} {x:RatL} (h:RBox W g x):g < W.heap.size:=by
 obtain ⟨⟨an,ad,cn,cd,h1,_⟩,_⟩:=h;exact h1.lt
theorem RBox.below {W W':World} {g:Nat} {x:RatL} (h:RBox W g x) (hb:Below W.heap.size W W'):RBox W' g x:=by
 obtain ⟨⟨an,ad,cn,cd,h1,h2,h3,h4,h5⟩,h6⟩:=h;exact ⟨⟨an,ad,cn,cd,h1.below hb,h2,h3,h4.below hb,h5.below hb⟩,h6.below hb h1.lt⟩
theorem RBox.alloc {W:World} {an ad:Option Addr} {cn cd:Nat} {x:RatL} (h2:x.num.length<=cn) (h3:x.den.length<=cd) (h4:U32s W an x.num) (h5:U32s W ad x.den) (T:Nat):
  RBox (W.alloc (.cells #[.bool x.neg,.slice an x.num.length cn,.slice ad x.den.length cd] T)) W.heap.size x:=
 have hb:Below W.heap.size W (W.alloc (.cells #[.bool x.neg,.slice an x.num.length cn,.slice ad x.den.length cd] T)):=(Below.refl _ W).alloc (Nat.le_refl _) _
 ⟨⟨an,ad,cn,cd,Box3.alloc W _ _ _ T,h2,h3,h4.below hb,h5.below hb⟩,NoInt.alloc W _ T (by simp)⟩
theorem getD_of {α:Type} {l:List α} {k:Nat} {x d:α} (h:l[k]? =some x):l.getD k d=x:=by rw [List.getD_eq_getElem?_getD,h];rfl
theorem map_get {l:List Rat} {k:Nat} {u:RatL} (h:(l.map ratL)[k]? =some u):ratOf u=l.getD k 0/\u=ratL (l.getD k 0):=by
 rw [List.getElem?_map] at h
 cases hx:l[k]? with
 | none=>rw [hx] at h;cases h
 | some q=>
  rw [hx] at h;simp only [Option.map_some,Option.some.injEq] at h;subst h;rw [getD_of hx,ratOf_ratL];exact ⟨rfl,rfl⟩
section
variable {w wr W:World} {S A:Value} {m:Nat} {nR RR:RatL} {q:Rat} {d:Nat->Bool} {g:Nat->Value}
end
def noI (v:Value):Bool:=match v with | .int .u32 _=>false | _=>true
def NoO (w:World) (v:Value):Prop:=∀ g,v.ownBlock=some g->NoInt w g
theorem U32s.grown {w w':World} {a:Option Addr} {l:List Nat} {v:Value} (h:U32s w a l) (hg:w.grownBy w' v.ownBlock) (hn:NoO w v):U32s w' a l:=by
 by_cases hl:l=[]
 ·rw [hl];exact U32s.nil _ _
 obtain ⟨b,off,rfl,hb,hc⟩:=h.open hl;have hp:=List.length_pos_iff.2 hl;have hne:some b ≠ v.ownBlock:=fun e=>hn b e.symm _ _ (hc 0 hp)
 refine ⟨h.lim,h.len,h.row.imp id ?_⟩
 rintro ⟨b',off',e,_,hcc⟩;cases e;exact ⟨b,off,rfl,Nat.lt_of_lt_of_le hb hg.size,fun j d hj=>(World.cell?_of_block (hg.block b hb hne)).trans (hcc j d hj)⟩
def coefT:List (Nat × Rat)->Nat->Rat
 | [],_=>0
 | (u,q)::r,v=>if u=v then q else coefT r v
def CanF:List (Nat × Rat)->Nat->Prop
 | [],_=>True
 | (u,q)::r,lo=>lo<=u/\q ≠ 0/\CanF r (u+1)
def topT:List (Nat × Rat)->Nat
 | []=>0
 | (u,_)::r=>max (u+1) (topT r)
theorem CanF.mono:∀ {l:List (Nat × Rat)} {lo lo':Nat},CanF l lo->lo'<=lo->CanF l lo'
 | [],_,_,_,_=>trivial
 | (u,q)::r,_,_,⟨h1,h2,h3⟩,h=>⟨Nat.le_trans h h1,h2,h3⟩
theorem coef_low:∀ {l:List (Nat × Rat)} {lo v:Nat},CanF l lo->v < lo->coefT l v=0
 | [],_,_,_,_=>rfl
 | (u,q)::r,lo,v,⟨h1,_,h3⟩,h=>by
  show (if u=v then q else coefT r v)=0
  rw [if_neg (by omega)];exact coef_low h3 (by omega)
theorem coef_top:∀ {l:List (Nat × Rat)} {v:Nat},topT l<=v->coefT l v=0
 | [],_,_=>rfl
 | (u,q)::r,v,h=>by
  have h':max (u+1) (topT r)<=v:=h;show (if u=v then q else coefT r v)=0
  rw [if_neg (by omega)];exact coef_top (by omega)
theorem can_ext:∀ {l m:List (Nat × Rat)} {lo lo':Nat},CanF l lo->CanF m lo'->(∀ v,coefT l v=coefT m v)->l=m
 | [],[],_,_,_,_,_=>rfl
 | [],(u,q)::r,_,_,_,⟨_,h2,_⟩,h=>by
  have:=h u;have e:coefT ((u,q)::r) u=q:=by show (if u=u then q else _)=q;rw [if_pos rfl]
  rw [e] at this;exact absurd this.symm h2
 | (u,q)::r,[],_,_,⟨_,h2,_⟩,_,h=>by
  have:=h u;have e:coefT ((u,q)::r) u=q:=by show (if u=u then q else _)=q;rw [if_pos rfl]
  rw [e] at this;exact absurd this h2
 | (u,q)::r,(u',q')::r',lo,lo',⟨a1,a2,a3⟩,⟨b1,b2,b3⟩,h=>by
  have e1:coefT ((u,q)::r) u=q:=by show (if u=u then q else _)=q;rw [if_pos rfl]
  have e2:coefT ((u',q')::r') u'=q':=by show (if u'=u' then q' else _)=q';rw [if_pos rfl]
  have hu:u=u':=by
   rcases Nat.lt_trichotomy u u' with k | k | k
   ·have:=h u;rw [e1] at this;have z:coefT ((u',q')::r') u=0:=by
     show (if u'=u then q' else coefT r' u)=0
     rw [if_neg (by omega)];exact coef_low b3 (by omega)
    rw [z] at this;exact absurd this a2
   ·exact k
   ·have:=h u';rw [e2] at this;have z:coefT ((u,q)::r) u'=0:=by
     show (if u=u' then q else coefT r u')=0
     rw [if_neg (by omega)];exact coef_low a3 (by omega)
    rw [z] at this;exact absurd this.symm b2
  subst hu;have hq:q=q':=by have:=h u;rw [e1,e2] at this;exact this
  subst hq;have hr:r=r':=can_ext a3 b3 (fun v=>by
   by_cases k:u=v
   ·subst k;rw [coef_low a3 (by omega),coef_low b3 (by omega)]
   ·have:=h v;have f1:coefT ((u,q)::r) v=coefT r v:=by show (if u=v then q else _)=_;rw [if_neg k]
    have f2:coefT ((u,q)::r') v=coefT r' v:=by show (if u=v then q else _)=_;rw [if_neg k]
    rw [f1,f2] at this;exact this)
  rw [hr]
def ofC (fn:Nat->Rat) (lo:Nat):Nat->List (Nat × Rat)
 | 0=>[]
 | n+1=>if fn lo=0 then ofC fn (lo+1) n else (lo,fn lo)::ofC fn (lo+1) n
theorem ofC_can (fn:Nat->Rat):∀ (n lo:Nat),CanF (ofC fn lo n) lo
 | 0,_=>trivial
 | n+1,lo=>by
  show CanF (if fn lo=0 then ofC fn (lo+1) n else (lo,fn lo)::ofC fn (lo+1) n) lo
  split
  ·exact (ofC_can fn n (lo+1)).mono (by omega)
  ·rename_i h;exact ⟨Nat.le_refl _,h,ofC_can fn n (lo+1)⟩
theorem ofC_coef (fn:Nat->Rat):∀ (n lo v:Nat),coefT (ofC fn lo n) v=if lo<=v/\v < lo+n then fn v else 0
 | 0,lo,v=>by rw [if_neg (by omega)];rfl
 | n+1,lo,v=>by
  show coefT (if fn lo=0 then ofC fn (lo+1) n else (lo,fn lo)::ofC fn (lo+1) n) v=_
  by_cases hz:fn lo=0
  ·rw [if_pos hz,ofC_coef fn n (lo+1) v]
   by_cases k:lo=v
   ·subst k;rw [if_neg (by omega),if_pos (by omega),hz]
   ·by_cases k2:lo+1<=v/\v < lo+1+n
    ·rw [if_pos k2,if_pos (by omega)]
    ·rw [if_neg k2,if_neg (by omega)]
  ·rw [if_neg hz];show (if lo=v then fn lo else coefT (ofC fn (lo+1) n) v)=_
   by_cases k:lo=v
   ·subst k;rw [if_pos rfl,if_pos (by omega)]
   ·rw [if_neg k,ofC_coef fn n (lo+1) v]
    by_cases k2:lo+1<=v/\v < lo+1+n
    ·rw [if_pos k2,if_pos (by omega)]
    ·rw [if_neg k2,if_neg (by omega)]
structure AffQ where
 ts:List (Nat × Rat)
 c:Rat
def AffQ.Can (f:AffQ):Prop:=CanF f.ts 0
def addT (k:Rat) (f g:List (Nat × Rat)):List (Nat × Rat):=ofC (fun v=>coefT f v+k * coefT g v) 0 (max (topT f) (topT g))
def addA (k:Rat) (f g:AffQ):AffQ:=⟨addT k f.ts g.ts,f.c+k * g.c⟩
def zerA:AffQ:=⟨[],0⟩
def varA (v:Nat):AffQ:=⟨[(v,1)],0⟩
def numA (q:Rat):AffQ:=⟨[],q⟩
theorem addT_can (k:Rat) (f g:List (Nat × Rat)):CanF (addT k f g) 0:=ofC_can _ _ _
theorem addT_coef (k:Rat) (f g:List (Nat × Rat)) (v:Nat):coefT (addT k f g) v=coefT f v+k * coefT g v:=by
 unfold addT;rw [ofC_coef]
 split
 ·rfl
 ·rename_i h
  have e1:coefT f v=0:=coef_top (by omega);have e2:coefT g v=0:=coef_top (by omega);rw [e1,e2,Rat.mul_zero,Rat.add_zero]
theorem addT_of {k:Rat} {f g l:List (Nat × Rat)} {lo:Nat} (h:CanF l lo) (e:∀ v,coefT l v=coefT f v+k * coefT g v):l=addT k f g:=can_ext h (addT_can k f g) (fun v=>by rw [e,addT_coef])
theorem addA_can (k:Rat) (f g:AffQ):(addA k f g).Can:=addT_can _ _ _
theorem zerA_can:zerA.Can:=trivial
theorem numA_can (q:Rat):(numA q).Can:=trivial
theorem varA_can (v:Nat):(varA v).Can:=⟨Nat.zero_le _,by decide,trivial⟩
theorem coef_app:∀ {l m:List (Nat × Rat)} {v lo:Nat},CanF m lo->topT l<=lo->coefT (l++m) v=coefT l v+coefT m v
 | [],m,v,lo,_,_=>by rw [List.nil_append];show coefT m v=0+coefT m v;rw [Rat.zero_add]
 | (u,q)::r,m,v,lo,h,ht=>by
  have ht':max (u+1) (topT r)<=lo:=ht;show (if u=v then q else coefT (r++m) v)=(if u=v then q else coefT r v)+coefT m v
  by_cases k:u=v
  ·rw [if_pos k,if_pos k,coef_low h (by omega),Rat.add_zero]
  ·rw [if_neg k,if_neg k];exact coef_app h (by omega)
theorem can_app:∀ {l m:List (Nat × Rat)} {lo lo':Nat},CanF l lo->CanF m lo'->topT l<=lo'->lo<=lo'->CanF (l++m) lo
 | [],m,lo,lo',_,h,_,hl=>h.mono hl
 | (u,q)::r,m,lo,lo',⟨h1,h2,h3⟩,h,ht,hl=>by
  have ht':max (u+1) (topT r)<=lo':=ht;exact ⟨h1,h2,can_app h3 h (by omega) (by omega)⟩
theorem top_app:∀ (l m:List (Nat × Rat)),topT (l++m)=max (topT l) (topT m)
 | [],m=>by show topT m=max 0 (topT m);omega
 | (u,q)::r,m=>by
  show max (u+1) (topT (r++m))=max (max (u+1) (topT r)) (topT m)
  rw [top_app r m];omega
def putT (l:List (Nat × Rat)) (v:Nat) (q:Rat):List (Nat × Rat):=if q=0 then l else l++[(v,q)]
theorem putT_coef {l:List (Nat × Rat)} {v:Nat} {q:Rat} (ht:topT l<=v) (u:Nat):coefT (putT l v q) u=coefT l u+(if v=u then q else 0):=by
 unfold putT
 split
 ·rename_i h;rw [h];split <;> rw [Rat.add_zero]
 ·rename_i h
  rw [coef_app (m:=[(v,q)]) (lo:=v) ⟨Nat.le_refl _,h,trivial⟩ ht];rfl
theorem putT_can {l:List (Nat × Rat)} {v:Nat} {q:Rat} (h:CanF l 0) (ht:topT l<=v):CanF (putT l v q) 0:=by
 unfold putT
 split
 ·exact h
 ·rename_i hq;exact can_app h (lo':=v) ⟨Nat.le_refl _,hq,trivial⟩ ht (Nat.zero_le _)
theorem putT_top {l:List (Nat × Rat)} {v:Nat} {q:Rat} (ht:topT l<=v):topT (putT l v q)<=v+1:=by
 unfold putT
 split
 ·omega
 ·rw [top_app];show max (topT l) (max (v+1) 0)<=v+1;omega
structure MrgT (k:Rat) (f g out a b:List (Nat × Rat)) (lo:Nat):Prop where
 can:CanF out 0
 top:topT out<=lo
 ca:CanF a lo
 cb:CanF b lo
 eq:∀ v,coefT out v+(coefT a v+k * coefT b v)=coefT f v+k * coefT g v
theorem MrgT.start {k:Rat} {f g:List (Nat × Rat)} (hf:CanF f 0) (hg:CanF g 0):MrgT k f g [] f g 0:=
 ⟨trivial,Nat.le_refl _,hf,hg,fun v=>by show 0+_=_;rw [Rat.zero_add]⟩
theorem coef_cons (u:Nat) (q:Rat) (r:List (Nat × Rat)) {lo:Nat} (h:CanF r (u+1)) (v:Nat):coefT ((u,q)::r) v=(if u=v then q else 0)+coefT r v:=by
 show (if u=v then q else coefT r v)=_
 by_cases k:u=v
 ·rw [if_pos k,if_pos k,coef_low h (by omega),Rat.add_zero]
 ·rw [if_neg k,if_neg k,Rat.zero_add]
theorem MrgT.left {k:Rat} {f g out a b:List (Nat × Rat)} {lo u:Nat} {q:Rat} (h:MrgT k f g out ((u,q)::a) b lo) (hb:CanF b (u+1)):MrgT k f g (putT out u q) a b (u+1):=by
 obtain ⟨h1,h2,⟨a1,a2,a3⟩,h4,h5⟩:=h
 refine ⟨putT_can h1 (by omega),putT_top (by omega),a3,hb,fun v=>?_⟩
 rw [putT_coef (by omega), <- h5 v,coef_cons u q a (lo:=0) a3 v]
 grind
theorem MrgT.right {k:Rat} {f g out a b:List (Nat × Rat)} {lo u:Nat} {q:Rat} (h:MrgT k f g out a ((u,q)::b) lo) (ha:CanF a (u+1)):MrgT k f g (putT out u (q * k)) a b (u+1):=by
 obtain ⟨h1,h2,h3,⟨b1,b2,b3⟩,h5⟩:=h
 refine ⟨putT_can h1 (by omega),putT_top (by omega),ha,b3,fun v=>?_⟩
 rw [putT_coef (by omega), <- h5 v,coef_cons u q b (lo:=0) b3 v]
 split <;> grind
theorem MrgT.both {k:Rat} {f g out a b:List (Nat × Rat)} {lo u:Nat} {p q:Rat} (h:MrgT k f g out ((u,p)::a) ((u,q)::b) lo):MrgT k f g (putT out u (p+q * k)) a b (u+1):=by
 obtain ⟨h1,h2,⟨a1,a2,a3⟩,⟨b1,b2,b3⟩,h5⟩:=h
 refine ⟨putT_can h1 (by omega),putT_top (by omega),a3,b3,fun v=>?_⟩
 rw [putT_coef (by omega), <- h5 v,coef_cons u p a (lo:=0) a3 v,coef_cons u q b (lo:=0) b3 v]
 split <;> grind
theorem MrgT.done {k:Rat} {f g out:List (Nat × Rat)} {lo:Nat} (h:MrgT k f g out [] [] lo):out=addT k f g:=
 addT_of h.can (fun v=>by
  rw [<- h.eq v];show _=coefT out v+(0+k * 0)
  grind)
def evalT (x:List Rat):List (Nat × Rat)->Rat
 | []=>0
 | (u,q)::r=>q * x.getD u 0+evalT x r
def sumN (fn:Nat->Rat) (lo:Nat):Nat->Rat
 | 0=>0
 | n+1=>fn lo+sumN fn (lo+1) n
theorem sumN_zero {fn:Nat->Rat}:∀ (n lo:Nat),(∀ v,lo<=v->v < lo+n->fn v=0)->sumN fn lo n=0
 | 0,_,_=>rfl
 | n+1,lo,h=>by
  show fn lo+sumN fn (lo+1) n=0
  rw [h lo (Nat.le_refl _) (by omega),sumN_zero n (lo+1) (fun v a b=>h v (by omega) (by omega)),Rat.add_zero]
theorem sumN_congr {fn gn:Nat->Rat}:∀ (n lo:Nat),(∀ v,lo<=v->v < lo+n->fn v=gn v)->sumN fn lo n=sumN gn lo n
 | 0,_,_=>rfl
 | n+1,lo,h=>by
  show fn lo+sumN fn (lo+1) n=gn lo+sumN gn (lo+1) n
  rw [h lo (Nat.le_refl _) (by omega),sumN_congr n (lo+1) (fun v a b=>h v (by omega) (by omega))]
theorem sumN_add {fn gn:Nat->Rat} (k:Rat):∀ (n lo:Nat),sumN (fun v=>fn v+k * gn v) lo n=sumN fn lo n+k * sumN gn lo n
 | 0,_=>by show (0:Rat)=0+k * 0;grind
 | n+1,lo=>by
  show (fn lo+k * gn lo)+sumN (fun v=>fn v+k * gn v) (lo+1) n=(fn lo+sumN fn (lo+1) n)+k * (gn lo+sumN gn (lo+1) n)
  rw [sumN_add k n (lo+1)]
  grind
theorem sumN_single {fn:Nat->Rat} {u:Nat}:∀ (n lo:Nat),lo<=u->u < lo+n->(∀ v,v ≠ u->fn v=0)->sumN fn lo n=fn u
 | 0,lo,h1,h2,_=>by omega
 | n+1,lo,h1,h2,h=>by
  show fn lo+sumN fn (lo+1) n=fn u
  by_cases k:lo=u
  ·subst k;rw [sumN_zero n (lo+1) (fun v a _=>h v (by omega)),Rat.add_zero]
  ·rw [h lo k,Rat.zero_add];exact sumN_single n (lo+1) (by omega) (by omega) h
theorem evalT_sum (x:List Rat):∀ {l:List (Nat × Rat)} {lo:Nat} (N:Nat),CanF l lo->topT l<=N->evalT x l=sumN (fun v=>coefT l v * x.getD v 0) 0 N
 | [],lo,N,_,_=>by
  rw [sumN_zero N 0 (fun v _ _=>by show (0:Rat) * _=0;rw [Rat.zero_mul])];rfl
 | (u,q)::r,lo,N,⟨h1,h2,h3⟩,ht=>by
  have ht':max (u+1) (topT r)<=N:=ht;show q * x.getD u 0+evalT x r=_
  rw [evalT_sum x N h3 (by omega)];have e:sumN (fun v=>coefT ((u,q)::r) v * x.getD v 0) 0 N=sumN (fun v=>(if u=v then q else 0) * x.getD v 0+1 * (coefT r v * x.getD v 0)) 0 N:=
   sumN_congr N 0 (fun v _ _=>by rw [coef_cons u q r (lo:=0) h3 v];grind)
  have key:=sumN_add (fn:=fun v=>(if u=v then q else 0) * x.getD v 0) (gn:=fun v=>coefT r v * x.getD v 0) 1 N 0;have s1:sumN (fun v=>(if u=v then q else 0) * x.getD v 0) 0 N=q * x.getD u 0:=by
   rw [sumN_single (fn:=fun v=>(if u=v then q else 0) * x.getD v 0) (u:=u) N 0 (Nat.zero_le _) (by omega) (fun v hv=>by rw [if_neg (fun h=>hv h.symm),Rat.zero_mul])];simp
  rw [e,key,s1,Rat.one_mul]
def evalA (x:List Rat) (f:AffQ):Rat:=f.c+evalT x f.ts
theorem evalA_add (x:List Rat) (k:Rat) {f g:AffQ} (hf:f.Can) (hg:g.Can):evalA x (addA k f g)=evalA x f+k * evalA x g:=by
 unfold evalA;have e:evalT x (addT k f.ts g.ts)=evalT x f.ts+k * evalT x g.ts:=by
  obtain ⟨N,hN⟩:∃ N,N=max (topT f.ts) (max (topT g.ts) (topT (addT k f.ts g.ts))):=⟨_,rfl⟩
  rw [evalT_sum x N (addT_can k f.ts g.ts) (by omega),evalT_sum x N hf (by omega),evalT_sum x N hg (by omega), <- sumN_add k]
  refine sumN_congr N 0 (fun v _ _=>?_)
  show coefT (addT k f.ts g.ts) v * x.getD v 0=coefT f.ts v * x.getD v 0+k * (coefT g.ts v * x.getD v 0)
  rw [addT_coef]
  grind
 show f.c+k * g.c+evalT x (addT k f.ts g.ts)=(f.c+evalT x f.ts)+k * (g.c+evalT x g.ts)
 rw [e]
 grind
theorem evalA_var (x:List Rat) (v:Nat):evalA x (varA v)=x.getD v 0:=by
 show (0:Rat)+(1 * x.getD v 0+0)=_
 grind
theorem evalA_num (x:List Rat) (q:Rat):evalA x (numA q)=q:=by
 show q+0=q
 grind
theorem rMake {w:World} {v u:Value} {n1 n2:Bool} {x y k1 k2:Nat} (hv:IntV w v n1 x k1) (hu:IntV w u n2 y k2) (hy:0 < y) (hr1:k1<=2097152) (hr2:k2<=2097152):
  Calls Tryz.prog 132 #[v,u] w (RetRE w (ratL (mkRat (sgn (n1 != n2) x) y)) 0):=by
 have HU:=hid hu;obtain ⟨a,c,l,rfl,h1,h2,h3,h4⟩:=hv.ex;obtain ⟨b,d,m,rfl,g1,g2,g3,g4⟩:=hu.ex;have hl1:=h2.len;have hl2:=g2.len;obtain ⟨HQ,H2,G2,H3,G3,HY⟩:=hd6 (quotN_ratL (n1 != n2) x hy) h2 g2 h3 g3 hy;have hz:(signZ n2 y==0)=false:=by
  rw [beq_eq_false_iff_ne];unfold signZ;rw [if_neg (by omega)]
  split <;> omega
 clear hv hu h2 g2 h3 g3 hy
 go_enter Tryz.func132,Tryz.ntmps132
 go_wp2_with fail
 have hF:=TwoIR.mk' w (.bool n1) (.slice a l.length c) (.bool n2) (.slice b m.length d) 89 51;generalize ((w.alloc (.cells #[.bool n1,.slice a l.length c] 89)).alloc (.cells #[.bool n2,.slice b m.length d] 89)).alloc (zerO 51)=W0 at *;obtain ⟨HS,HF0⟩:=hd2 (iSign (HU.out.below hF.bl) (by omega)) hF;clear hF
 refine HS.out.mono ?_
 rintro e W ⟨rfl,hbW⟩;have HF:=hid (HF0.out.below' hbW);generalize signZ n2 y=sq at *;clear HS HF0 hbW HU;obtain ⟨x0,x1,_,xlt⟩:=HF.out.a;obtain ⟨y0,y1,_,ylt⟩:=HF.out.b;have hC:=rQuot (n1 != n2) c d h1 g1 (H2.out.below HF.out.bl) (G2.out.below HF.out.bl) H3.out G3.out (by omega) (by omega) HY.out;rw [HQ.out] at hC;have HC:=hid hC;clear hC H2 G2
 go_wp2_with fail
 refine HC.out.mono ?_
 rintro e w5 ⟨v5,rfl,⟨bn',bd',m1,m2,rfl,k3,k4,k5,k6⟩,k2⟩;obtain ⟨r0,r1,r2,rf,rlt⟩:=HF.out.c.below k2;obtain ⟨hN5,K5,K6,hB5⟩:=hd4 (HF.out.nc.below k2 HF.out.c.lt) k5 k6 (HF.out.bl.trans (k2.mono (by have:=HF.out.a.lt;omega)));clear HC k5 k6 k2 x0 x1 xlt y0 y1 ylt hz;generalize ratL (mkRat (sgn (n1 != n2) x) y)=R at *;go_wp2;exact bodyPost_ret (v:=.tuple #[.agg #[.bool R.neg,.slice bn' R.num.length m1,.slice bd' R.den.length m2],.int .i64 0]) (by simp [results,Tryz.results132,go_sem,r0,r1,r2]) rfl ⟨_,rfl,RatV.store hN5.out k3 k4 K5.out K6.out,below_store3 hB5.out (by omega) _ _ _⟩
end Go.Proofs.YtfgmmghmmfmdgaaGreat
