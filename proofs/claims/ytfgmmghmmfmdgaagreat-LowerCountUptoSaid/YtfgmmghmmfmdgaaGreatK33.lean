/-
  Contracts of the functions that the statement reaches: LinE, LinF, LinG, LinH, LinI, LinM.
-/
import Derived.Test.YtfgmmghmmfmdgaaGreatK31
set_option linter.all false
set_option maxRecDepth 100000
set_option maxHeartbeats 3200000
namespace Go.Proofs.YtfgmmghmmfmdgaaGreat
open Go.RowKit
open Go.Lib (hid)
def evalU (x:List Rat) (U:List AffQ):List Rat:=U.foldl (fun v f=>v++[maxQ (evalA v f) 0]) x
theorem evalU_app (x:List Rat) (U V:List AffQ):evalU x (U++V)=evalU (evalU x U) V:=List.foldl_append ..
theorem evalU_snoc (x:List Rat) (U:List AffQ) (f:AffQ):evalU x (U++[f])=evalU x U++[maxQ (evalA (evalU x U) f) 0]:=by rw [evalU_app];rfl
theorem evalU_ext:∀ (V:List AffQ) (x:List Rat),∃ z,evalU x V=x++z
 | [],x=>⟨[],by show x=_;rw [List.append_nil]⟩
 | f::r,x=>by
  obtain ⟨z,h⟩:=evalU_ext r (x++[maxQ (evalA x f) 0]);exact ⟨maxQ (evalA x f) 0::z,by show evalU (x++[maxQ (evalA x f) 0]) r=_;rw [h,List.append_assoc];rfl⟩
theorem evalU_len:∀ (V:List AffQ) (x:List Rat),(evalU x V).length=x.length+V.length
 | [],_=>rfl
 | f::r,x=>by
  show (evalU (x++[maxQ (evalA x f) 0]) r).length=_
  rw [evalU_len r];simp;omega
def bndF (n:Nat) (f:AffQ):Prop:=topT f.ts<=n
theorem top_ofC (fn:Nat->Rat):∀ (n lo:Nat),topT (ofC fn lo n)<=lo+n
 | 0,_=>Nat.zero_le _
 | n+1,lo=>by
  show topT (if fn lo=0 then ofC fn (lo+1) n else (lo,fn lo)::ofC fn (lo+1) n)<=_
  have:=top_ofC fn n (lo+1)
  split
  ·omega
  ·show max (lo+1) (topT (ofC fn (lo+1) n))<=_
   omega
theorem bnd_add {n:Nat} {k:Rat} {f g:AffQ} (hf:bndF n f) (hg:bndF n g):bndF n (addA k f g):=by
 unfold bndF at *;have:=top_ofC (fun v=>coefT f.ts v+k * coefT g.ts v) (max (topT f.ts) (topT g.ts)) 0;show topT (ofC _ 0 _)<=n
 omega
theorem bnd_zer (n:Nat):bndF n zerA:=Nat.zero_le _
theorem bnd_num (n:Nat) (q:Rat):bndF n (numA q):=Nat.zero_le _
theorem bnd_var {n v:Nat} (h:v < n):bndF n (varA v):=by show max (v+1) 0<=n;omega
theorem bndF.mono {n m:Nat} {f:AffQ} (h:bndF n f) (hm:n<=m):bndF m f:=Nat.le_trans h hm
theorem evalT_ext {a b:List Rat}:∀ {l:List (Nat × Rat)},(∀ v,v < topT l->a.getD v 0=b.getD v 0)->evalT a l=evalT b l
 | [],_=>rfl
 | (u,q)::r,h=>by
  have ht:topT ((u,q)::r)=max (u+1) (topT r):=rfl;show q * a.getD u 0+evalT a r=q * b.getD u 0+evalT b r
  rw [h u (by omega),evalT_ext (fun v hv=>h v (by omega))]
theorem evalA_ext {a z:List Rat} {f:AffQ} (h:bndF a.length f):evalA (a++z) f=evalA a f:=by
 unfold evalA;rw [evalT_ext (a:=a++z) (b:=a) (fun v hv=>?_)];have:v < a.length:=Nat.lt_of_lt_of_le hv h;rw [List.getD_eq_getElem?_getD,List.getElem?_append_left this,List.getD_eq_getElem?_getD]
theorem evalA_zer (v:List Rat):evalA v zerA=0:=by show (0:Rat)+0=0;rw [Rat.add_zero]
theorem evalA_sc (v:List Rat) (k:Rat) {f:AffQ} (hf:f.Can):evalA v (scA k f)=k * evalA v f:=by
 unfold scA;rw [evalA_add v k zerA_can hf,evalA_zer,Rat.zero_add]
def GoodF (n:Nat) (x:List AffQ):Prop:=∀ f ∈ x,f.Can/\bndF n f
theorem GoodF.at {n:Nat} {x:List AffQ} (h:GoodF n x) (k:Nat):(x.getD k zerA).Can/\bndF n (x.getD k zerA):=by
 rw [List.getD_eq_getElem?_getD]
 cases e:x[k]? with
 | none=>exact ⟨zerA_can,bnd_zer n⟩
 | some f=>exact h f (List.mem_of_getElem? e)
theorem GoodF.mono {n m:Nat} {x:List AffQ} (h:GoodF n x) (hm:n<=m):GoodF m x:=fun f hf=>⟨(h f hf).1,(h f hf).2.mono hm⟩
theorem map_getD (v:List Rat) (x:List AffQ) (k:Nat):(x.map (evalA v)).getD k 0=evalA v (x.getD k zerA):=by
 rw [List.getD_eq_getElem?_getD,List.getElem?_map,List.getD_eq_getElem?_getD]
 cases x[k]? with
 | none=>exact (evalA_zer v).symm
 | some f=>rfl
theorem sumF_good {n:Nat} {b:Rat} {ws:List Rat} {off:Nat} {ix:List Int} {x:List AffQ} (h:GoodF n x):∀ k,(sumF b ws off ix x k).Can/\bndF n (sumF b ws off ix x k)
 | 0=>⟨numA_can b,bnd_num n b⟩
 | k+1=>by
  show (if 0<=ix.getD k 0 then addA 1 (sumF b ws off ix x k) (scA (ws.getD (off+k) 0) (x.getD (ix.getD k 0).toNat zerA)) else sumF b ws off ix x k).Can/\bndF n (if 0<=ix.getD k 0 then addA 1 (sumF b ws off ix x k) (scA (ws.getD (off+k) 0) (x.getD (ix.getD k 0).toNat zerA)) else sumF b ws off ix x k)
  have ih:=sumF_good (b:=b) (ws:=ws) (off:=off) (ix:=ix) h k
  split
  ·exact ⟨addA_can _ _ _,bnd_add ih.2 (bnd_add (bnd_zer n) (h.at _).2)⟩
  ·exact ih
theorem sumF_eval {n:Nat} (v:List Rat) {b:Rat} {ws:List Rat} {off:Nat} {ix:List Int} {x:List AffQ} (h:GoodF n x):∀ k,evalA v (sumF b ws off ix x k)=psum b ws off ix (x.map (evalA v)) k
 | 0=>evalA_num v b
 | k+1=>by
  have ih:=sumF_eval (n:=n) v (b:=b) (ws:=ws) (off:=off) (ix:=ix) h k;show evalA v (if 0<=ix.getD k 0 then _ else _)=psum b ws off ix (x.map (evalA v)) k+termQ ws off ix (x.map (evalA v)) k
  unfold termQ
  split
  ·rw [evalA_add v 1 (sumF_good h k).1 (show (scA _ _).Can from addA_can _ _ _),evalA_sc v _ (h.at _).1,ih,map_getD,Rat.one_mul]
  ·rw [ih,Rat.add_zero]
theorem plusF_good {n:Nat} {x:List AffQ} (h:GoodF n x):∀ k,(plusF x k).Can/\bndF n (plusF x k)
 | 0=>⟨zerA_can,bnd_zer n⟩
 | k+1=>⟨addA_can _ _ _,bnd_add (plusF_good h k).2 (h.at k).2⟩
theorem plusF_eval {n:Nat} (v:List Rat) {x:List AffQ} (h:GoodF n x):∀ k,evalA v (plusF x (k+1))=padd (x.map (evalA v)) k
 | 0=>by
  show evalA v (addA 1 zerA (x.getD 0 zerA))=(x.map (evalA v)).getD 0 0
  rw [evalA_add v 1 zerA_can (h.at 0).1,evalA_zer,map_getD,Rat.zero_add,Rat.one_mul]
 | k+1=>by
  show evalA v (addA 1 (plusF x (k+1)) (x.getD (k+1) zerA))=padd (x.map (evalA v)) k+(x.map (evalA v)).getD (k+1) 0
  rw [evalA_add v 1 (plusF_good h _).1 (h.at _).1,plusF_eval v h k,map_getD,Rat.one_mul]
theorem meanF_good {n:Nat} {x:List AffQ} (h:GoodF n x):(meanF x).Can/\bndF n (meanF x):=⟨addA_can _ _ _,bnd_add (bnd_zer n) (plusF_good h _).2⟩
theorem meanF_eval {n:Nat} (v:List Rat) {x:List AffQ} (h:GoodF n x) (hl:1<=x.length):evalA v (meanF x)=avgL (x.map (evalA v)):=by
 unfold meanF avgL;rw [evalA_sc v _ (plusF_good h _).1];obtain ⟨k,hk⟩:∃ k,x.length=k+1:=⟨x.length - 1,by omega⟩
 rw [hk,plusF_eval v h k,List.length_map,hk,Nat.add_sub_cancel];generalize (((k+1:Nat):Int):Rat)=q;generalize padd (x.map (evalA v)) k=s
 grind
theorem maxQ_assoc (a b c:Rat):maxQ (maxQ a b) c=maxQ a (maxQ b c):=by
 unfold maxQ
 grind
theorem neg_one_sub (a b:Rat):b+ -1 * a=b - a:=by grind
theorem maxQ_sub (a b:Rat):a+maxQ (b - a) 0=maxQ a b:=by
 unfold maxQ
 split <;> split <;> grind
theorem pmax_left (p q:List Rat):∀ k,k < p.length->pmax (p++q) k=pmax p k
 | 0,h=>by
  show (p++q).getD 0 0=p.getD 0 0
  rw [List.getD_eq_getElem?_getD,List.getElem?_append_left h,List.getD_eq_getElem?_getD]
 | k+1,h=>by
  show maxQ (pmax (p++q) k) ((p++q).getD (k+1) 0)=maxQ (pmax p k) (p.getD (k+1) 0)
  rw [pmax_left p q k (by omega),List.getD_eq_getElem?_getD,List.getElem?_append_left h,List.getD_eq_getElem?_getD]
theorem pmax_right (p q:List Rat) (hp:1<=p.length):∀ k,pmax (p++q) (p.length+k)=maxQ (maxL p) (pmax q k)
 | 0=>by
  obtain ⟨j,hj⟩:∃ j,p.length=j+1:=⟨p.length - 1,by omega⟩
  rw [Nat.add_zero,hj];show maxQ (pmax (p++q) j) ((p++q).getD (j+1) 0)=maxQ (maxL p) (q.getD 0 0)
  rw [pmax_left p q j (by omega),List.getD_eq_getElem?_getD,List.getElem?_append_right (by omega), <- hj,Nat.sub_self,List.getD_eq_getElem?_getD];unfold maxL;rw [hj,Nat.add_sub_cancel]
 | k+1=>by
  show maxQ (pmax (p++q) (p.length+k)) ((p++q).getD (p.length+k+1) 0)=maxQ (maxL p) (maxQ (pmax q k) (q.getD (k+1) 0))
  rw [pmax_right p q hp k,maxQ_assoc,List.getD_eq_getElem?_getD,List.getElem?_append_right (by omega),List.getD_eq_getElem?_getD,show p.length+k+1 - p.length=k+1 by omega]
theorem maxL_app {p q:List Rat} (hp:1<=p.length) (hq:1<=q.length):maxL (p++q)=maxQ (maxL p) (maxL q):=by
 have e:(p++q).length - 1=p.length+(q.length - 1):=by rw [List.length_append];omega
 rw [maxL,e,pmax_right p q hp];rfl
def GoodU (n:Nat) (U:List AffQ):Prop:=∀ (j:Nat) (f:AffQ),U[j]? =some f->f.Can/\bndF (n+j) f
theorem GoodU.nil (n:Nat):GoodU n []:=fun j f h=>by simp at h
theorem GoodU.snoc {n:Nat} {U:List AffQ} {f:AffQ} (h:GoodU n U) (h1:f.Can) (h2:bndF (n+U.length) f):GoodU n (U++[f]):=by
 intro j g hg
 by_cases hj:j < U.length
 ·rw [List.getElem?_append_left hj] at hg;exact h j g hg
 ·have hlt:=(List.getElem?_eq_some_iff.1 hg).1;rw [List.length_append] at hlt;simp at hlt;obtain rfl:j=U.length:=by omega
  have:g=f:=by simpa using hg.symm
  subst this;exact ⟨h1,h2⟩
theorem eval_more {x:List Rat} {U V:List AffQ} {f:AffQ} (h:bndF (x.length+U.length) f):evalA (evalU x (U++V)) f=evalA (evalU x U) f:=by
 rw [evalU_app];obtain ⟨z,hz⟩:=evalU_ext V (evalU x U);rw [hz];exact evalA_ext (by rw [evalU_len];exact h)
theorem map_more {x:List Rat} {U V:List AffQ} {l:List AffQ} (h:GoodF (x.length+U.length) l):l.map (evalA (evalU x (U++V)))=l.map (evalA (evalU x U)):=
 List.map_congr_left fun f hf=>eval_more (h f hf).2
theorem eval_unit (x:List Rat) (U:List AffQ) (f:AffQ):evalA (evalU x (U++[f])) (varA (x.length+U.length))=maxQ (evalA (evalU x U) f) 0:=by
 rw [evalA_var,evalU_snoc,List.getD_eq_getElem?_getD,List.getElem?_append_right (by rw [evalU_len];omega),evalU_len,Nat.sub_self];rfl
theorem greatF_ok (x:List Rat):∀ (fuel:Nat) (U l:List AffQ),GoodU x.length U->GoodF (x.length+U.length) l->1<=l.length->l.length<=fuel->
  GoodU x.length (greatF x.length fuel U l).1/\(greatF x.length fuel U l).2.Can/\bndF (x.length+(greatF x.length fuel U l).1.length) (greatF x.length fuel U l).2/\
   evalA (evalU x (greatF x.length fuel U l).1) (greatF x.length fuel U l).2=maxL (l.map (evalA (evalU x U)))
 | 0,U,l,_,_,h1,h2=>by omega
 | fuel+1,U,l,hU,hl,h1,h2=>by
  by_cases k:l.length=1
  ·rw [greatF_one k]
   refine ⟨hU,(hl.at 0).1,(hl.at 0).2,?_⟩
   show evalA (evalU x U) (l.getD 0 zerA)=maxL (l.map (evalA (evalU x U)))
   rw [<- map_getD];unfold maxL;rw [List.length_map,k];rfl
  ·obtain ⟨h,hh⟩:∃ h,h=(l.length+1) / 2:=⟨_,rfl⟩
   have hlo:1<=h:=by omega
   have hhi:h+1<=l.length:=by omega
   have lt:(l.take h).length=h:=by rw [List.length_take];omega
   have ld:(l.drop h).length=l.length - h:=List.length_drop;obtain ⟨a1,a2,a3,a4⟩:=greatF_ok x fuel U (l.take h) hU (fun f hf=>hl f (List.mem_of_mem_take hf)) (by omega) (by omega);obtain ⟨V1,e1⟩:=greatF_app x.length fuel U (l.take h);obtain ⟨p1,hp1⟩:∃ p,p=greatF x.length fuel U (l.take h):=⟨_,rfl⟩
   rw [<- hp1] at a1 a2 a3 a4 e1;obtain ⟨U1,a⟩:=p1;simp only at a1 a2 a3 a4 e1;have hl2:GoodF (x.length+U1.length) (l.drop h):=fun f hf=>⟨(hl f (List.mem_of_mem_drop hf)).1,(hl f (List.mem_of_mem_drop hf)).2.mono (by rw [e1,List.length_append];omega)⟩
   obtain ⟨b1,b2,b3,b4⟩:=greatF_ok x fuel U1 (l.drop h) a1 hl2 (by omega) (by omega);obtain ⟨V2,e2⟩:=greatF_app x.length fuel U1 (l.drop h);obtain ⟨p2,hp2⟩:∃ p,p=greatF x.length fuel U1 (l.drop h):=⟨_,rfl⟩
   rw [<- hp2] at b1 b2 b3 b4 e2;obtain ⟨U2,b⟩:=p2;simp only at b1 b2 b3 b4 e2;rw [greatF_more (U1:=U1) (U2:=U2) (a:=a) (b:=b) (by omega) (by rw [<- hh];exact hp1.symm) (by rw [<- hh];exact hp2.symm)];have a3':bndF (x.length+U2.length) a:=a3.mono (by rw [e2,List.length_append];omega);have hs:bndF (x.length+U2.length) (addA (-1) b a):=bnd_add b3 a3'
   refine ⟨b1.snoc (addA_can _ _ _) hs,addA_can _ _ _,?_,?_⟩
   ·rw [List.length_append];exact bnd_add (a3'.mono (by simp)) (bnd_var (by simp))
   ·show evalA (evalU x (U2++[addA (-1) b a])) (addA 1 a (varA (x.length+U2.length)))=_
    have ea:evalA (evalU x U2) a=maxL ((l.take h).map (evalA (evalU x U))):=by
     rw [e2,eval_more a3];exact a4
    have eb:evalA (evalU x U2) b=maxL ((l.drop h).map (evalA (evalU x U))):=by
     rw [b4,e1]
     congr 1
     exact map_more (fun f hf=>hl f (List.mem_of_mem_drop hf))
    rw [evalA_add _ 1 a2 (varA_can _),eval_unit,eval_more a3',evalA_add _ (-1) b2 a2,ea,eb,Rat.one_mul];have hm:l.map (evalA (evalU x U))=(l.take h).map (evalA (evalU x U))++(l.drop h).map (evalA (evalU x U)):=by rw [<- List.map_append,List.take_append_drop]
    rw [hm,maxL_app (by rw [List.length_map];omega) (by rw [List.length_map];omega),neg_one_sub];exact maxQ_sub _ _
structure StepU (x:List Rat) (U U':List AffQ) (y:AffQ) (q:Rat):Prop where
 good:GoodU x.length U'
 more:∃ V,U'=U++V
 can:y.Can
 bnd:bndF (x.length+U'.length) y
 val:evalA (evalU x U') y=q
theorem foldU_ok {β:Type} {x:List Rat} {U0:List AffQ} {f:List AffQ->β->List AffQ × AffQ} {val:β->Rat}:∀ (l:List β) (U:List AffQ),(∀ b ∈ l,∀ U,(∃ W,U=U0++W)->GoodU x.length U->StepU x U (f U b).1 (f U b).2 (val b))->
  (∃ W,U=U0++W)->GoodU x.length U->GoodU x.length (foldU f l U).1/\(∃ V,(foldU f l U).1=U++V)/\GoodF (x.length+(foldU f l U).1.length) (foldU f l U).2/\(foldU f l U).2.map (evalA (evalU x (foldU f l U).1))=l.map val
 | [],U,_,_,hU=>⟨hU,⟨[],by rw [List.append_nil];rfl⟩,(fun f hf=>by cases hf),rfl⟩
 | b::r,U,hs,⟨W,hW⟩,hU=>by
  have h:=hs b (by simp) U ⟨W,hW⟩ hU;obtain ⟨V1,e1⟩:=h.more;have hr:=foldU_ok r (f U b).1 (fun b' hb'=>hs b' (by simp [hb'])) ⟨W++V1,by rw [e1,hW,List.append_assoc]⟩ h.good;obtain ⟨g1,⟨V2,e2⟩,g3,g4⟩:=hr
  refine ⟨g1,⟨V1++V2,by show (foldU f r (f U b).1).1=_;rw [e2,e1,List.append_assoc]⟩,?_,?_⟩
  ·intro y hy
   rcases List.mem_cons.1 hy with e | e
   ·subst e;exact ⟨h.can,h.bnd.mono (by show _<=x.length+(foldU f r (f U b).1).1.length;rw [e2,List.length_append];omega)⟩
   ·exact g3 y e
  ·show evalA (evalU x (foldU f r (f U b).1).1) (f U b).2::(foldU f r (f U b).1).2.map (evalA (evalU x (foldU f r (f U b).1).1))=val b::r.map val
   rw [g4]
   congr 1
   rw [e2,eval_more h.bnd];exact h.val
theorem pool_grps (f:List Rat->Rat) (C n:Nat) (win:List (List Int)) (x:List Rat):poolQ f C n win x=(grpsL C n win).map fun g=>f (valsQ g x):=by
 unfold poolQ grpsL;rw [List.map_flatMap]
 congr 1
 funext ch
 rw [List.map_map];rfl
theorem vals_map (v:List Rat) (g:List Int) (X:List AffQ):(valsF g X).map (evalA v)=valsQ g (X.map (evalA v)):=by
 unfold valsF valsQ;rw [List.map_map];exact List.map_congr_left fun i _=>(map_getD v X i.toNat).symm
theorem vals_good {n:Nat} {X:List AffQ} (h:GoodF n X) (g:List Int):GoodF n (valsF g X):=by
 intro f hf;obtain ⟨i,_,rfl⟩:=List.mem_map.1 hf;exact h.at _
theorem valsF_len (g:List Int) (X:List AffQ):(valsF g X).length=g.length:=by simp [valsF]
theorem grps_len {q:Win} {C n:Nat} (hC:C=q.C) (hn:n=q.kh * q.kw):∀ g ∈ grpsL C n q.all,g.length=n:=by
 intro g hg;unfold grpsL at hg;obtain ⟨ch,hch,hg⟩:=List.mem_flatMap.1 hg;obtain ⟨i,hi,rfl⟩:=List.mem_map.1 hg;have hch:=List.mem_range.1 hch;have hi:=List.mem_range.1 hi;have hl:(q.all.getD i []).length=q.C * (q.kh * q.kw):=by
  rw [List.getD_eq_getElem?_getD,List.getElem?_eq_getElem hi];exact q.all_one_len' _ (List.getElem_mem hi)
 refine partL_len ?_
 rw [hl, <- hn, <- hC];have:=Nat.mul_le_mul_right n (Nat.succ_le_of_lt hch);rw [Nat.succ_mul] at this;exact this
theorem lowLay_ok {x:List Rat} {U:List AffQ} {l:LayL} {s:List Int} {X fr:List AffQ} (hU:GoodU x.length U) (hX:GoodF (x.length+U.length) X) (hF:GoodF (x.length+U.length) fr) (hf:FitL l s):
  GoodU x.length (lowLay x.length U l s X fr).1/\(∃ V,(lowLay x.length U l s X fr).1=U++V)/\GoodF (x.length+(lowLay x.length U l s X fr).1.length) (lowLay x.length U l s X fr).2/\
   (lowLay x.length U l s X fr).2.map (evalA (evalU x (lowLay x.length U l s X fr).1))=layQ l s (X.map (evalA (evalU x U))) (fr.map (evalA (evalU x U))):=by
 have here:∀ (Z:List AffQ) (q:List Rat),GoodF (x.length+U.length) Z->Z.map (evalA (evalU x U))=q->GoodU x.length (U,Z).1/\(∃ V,(U,Z).1=U++V)/\GoodF (x.length+(U,Z).1.length) (U,Z).2/\(U,Z).2.map (evalA (evalU x (U,Z).1))=q:=
  fun Z q h1 h2=>⟨hU,⟨[],by rw [List.append_nil]⟩,h1,h2⟩
 unfold lowLay layQ
 by_cases k1:l.kind=1
 ·rw [if_pos k1,if_pos k1]
  refine here _ _ (fun f hf=>?_) ?_
  ·obtain ⟨r,_,rfl⟩:=List.mem_map.1 hf;exact sumF_good hX _
  ·unfold denseQ;rw [List.map_map]
   refine List.map_congr_left fun r _=>?_
   show evalA (evalU x U) (sumF _ _ _ _ _ _)=denseAt _ _ _ r
   rw [sumF_eval (evalU x U) hX];unfold denseAt sumQ;rw [iotaZ_len,List.length_map]
 rw [if_neg k1,if_neg k1]
 by_cases k2:l.kind=2
 ·rw [if_pos k2,if_pos k2]
  refine here _ _ (fun f hf=>?_) ?_
  ·obtain ⟨o,_,hf⟩:=List.mem_flatMap.1 hf;obtain ⟨i,_,rfl⟩:=List.mem_map.1 hf;exact sumF_good hX _
  ·unfold convQ;rw [List.map_flatMap]
   congr 1
   funext o
   rw [List.map_map]
   refine List.map_congr_left fun i _=>?_
   show evalA (evalU x U) (sumF _ _ _ _ _ _)=convAt _ _ _ _ _ o i
   rw [sumF_eval (evalU x U) hX];rfl
 rw [if_neg k2,if_neg k2]
 by_cases k3:l.kind=3
 ·rw [if_pos k3,if_pos k3]
  cases hf with
  | pool q hk hq ht hs e1 e2 e3 e4 hp hwl hz=>
   rw [hwl,pool_grps];have hC:(s.getD 0 0).toNat=q.C:=by rw [hs];rfl
   have hn:l.kh.toNat * l.kw.toNat=q.kh * q.kw:=by rw [e1,e2];rfl
   have hlen:=grps_len (q:=q) hC hn;have hpos:1<=l.kh.toNat * l.kw.toNat:=by rw [hn];exact Nat.mul_pos hq.kh1 hq.kw1
   have hr:=foldU_ok (x:=x) (U0:=U) (f:=fun U g=>greatF x.length g.length U (valsF g X)) (val:=fun g=>maxL (valsQ g (X.map (evalA (evalU x U))))) (grpsL (s.getD 0 0).toNat (l.kh.toNat * l.kw.toNat) q.all) U (fun g hg U' ⟨W,hW⟩ hU'=>by
    have hgl:=hlen g hg;have hX':GoodF (x.length+U'.length) X:=hX.mono (by rw [hW,List.length_append];omega);obtain ⟨a1,a2,a3,a4⟩:=greatF_ok x g.length U' (valsF g X) hU' (vals_good hX' g) (by rw [valsF_len];omega) (by rw [valsF_len];exact Nat.le_refl _)
    refine ⟨a1,greatF_app _ _ _ _,a2,a3,?_⟩
    rw [a4,vals_map]
    congr 2
    rw [hW];exact map_more hX) ⟨[],by rw [List.append_nil]⟩ hU
   exact hr
  | dense R hk=>omega
  | conv q O hk=>omega
  | keep hk=>omega
  | add hk=>omega
 rw [if_neg k3,if_neg k3]
 by_cases k4:l.kind=4
 ·rw [if_pos k4,if_pos k4]
  cases hf with
  | pool q hk hq ht hs e1 e2 e3 e4 hp hwl hz=>
   rw [hwl,pool_grps];have hC:(s.getD 0 0).toNat=q.C:=by rw [hs];rfl
   have hn:l.kh.toNat * l.kw.toNat=q.kh * q.kw:=by rw [e1,e2];rfl
   have hlen:=grps_len (q:=q) hC hn;have hpos:1<=l.kh.toNat * l.kw.toNat:=by rw [hn];exact Nat.mul_pos hq.kh1 hq.kw1
   refine here _ _ (fun f hf=>?_) ?_
   ·obtain ⟨g,_,rfl⟩:=List.mem_map.1 hf;exact meanF_good (vals_good hX g)
   ·rw [List.map_map]
    refine List.map_congr_left fun g hg=>?_
    show evalA (evalU x U) (meanF (valsF g X))=_
    rw [meanF_eval (evalU x U) (vals_good hX g) (by rw [valsF_len,hlen g hg];exact hpos),vals_map]
  | dense R hk=>omega
  | conv q O hk=>omega
  | keep hk=>omega
  | add hk=>omega
 rw [if_neg k4,if_neg k4]
 by_cases k5:l.kind=5
 ·rw [if_pos k5,if_pos k5];have hr:=foldU_ok (x:=x) (U0:=U) (f:=unitF x.length) (val:=fun f=>maxQ (evalA (evalU x U) f) 0) X U (fun f hf U' ⟨W,hW⟩ hU'=>by
   have hb:bndF (x.length+U'.length) f:=(hX f hf).2.mono (by rw [hW,List.length_append];omega)
   refine ⟨hU'.snoc (hX f hf).1 hb,⟨[f],rfl⟩,varA_can _,?_,?_⟩
   ·exact bnd_var (by show _ < x.length+(U'++[f]).length;simp)
   ·show evalA (evalU x (U'++[f])) (varA (x.length+U'.length))=_
    rw [eval_unit,hW,eval_more (hX f hf).2]) ⟨[],by rw [List.append_nil]⟩ hU
  have e:reluQ (X.map (evalA (evalU x U)))=X.map (fun f=>maxQ (evalA (evalU x U) f) 0):=by
   unfold reluQ;rw [List.map_map];rfl
  rw [e];exact hr
 rw [if_neg k5,if_neg k5]
 by_cases k7:l.kind=7
 ·rw [if_pos k7,if_pos k7]
  refine here _ _ (fun f hf=>?_) ?_
  ·obtain ⟨k,_,rfl⟩:=List.mem_map.1 hf;exact ⟨addA_can _ _ _,bnd_add (hX.at k).2 (hF.at k).2⟩
  ·unfold plusQ;rw [List.map_map,List.length_map]
   refine List.map_congr_left fun k _=>?_
   show evalA (evalU x U) (addA 1 (X.getD k zerA) (fr.getD k zerA))=_
   rw [evalA_add _ 1 (hX.at k).1 (hF.at k).1,map_getD,map_getD,Rat.one_mul]
 rw [if_neg k7,if_neg k7];exact here _ _ hX rfl
theorem chain_head {input:List Int} {S T:List (List Int)} {l:LayL} {L:List LayL} (h:Chain input S T (l::L)):∃ s T',T=s::T'/\outSL input S l=(s,0)/\Chain input (S++[s]) T' L:=by
 obtain ⟨hl,hc⟩:=h
 cases T with
 | nil=>simp at hl
 | cons s T'=>
  refine ⟨s,T',rfl,by simpa using hc 0 s l rfl rfl,by simpa using hl,fun j s' l' h1 h2=>?_⟩
  have:=hc (j+1) s' l' (by simpa using h1) (by simpa using h2)
  simpa using this
theorem curr_size {input:List Int} {x:List Rat} {S:List (List Int)} {Y:List (List Rat)} (hl:S.length=Y.length) (hs:∀ (j:Nat) (s:List Int) (y:List Rat),S[j]? =some s->Y[j]? =some y->(y.length:Int)=sizeL s) (h0:(x.length:Int)=sizeL input):
  ((currQ x Y).length:Int)=sizeL (currL input S):=by
 unfold currQ currL;rw [List.getLast?_eq_getElem?,List.getLast?_eq_getElem?,hl]
 cases hy:Y[Y.length - 1]? with
 | none=>
  have hs:S[Y.length - 1]? =none:=by
   rw [List.getElem?_eq_none_iff] at hy ⊢;omega
  rw [hs];exact h0
 | some y=>
  have hlt:=(List.getElem?_eq_some_iff.1 hy).1;have hls:Y.length - 1 < S.length:=by rw [hl];exact hlt
  have hs':S[Y.length - 1]? =some (S[Y.length - 1]'hls):=List.getElem?_eq_getElem hls;rw [hs'];exact hs _ _ _ hs' hy
theorem vars_good (n:Nat):GoodF n (varsF n):=by
 intro f hf;obtain ⟨v,hv,rfl⟩:=List.mem_map.1 hf;exact ⟨varA_can v,bnd_var (List.mem_range.1 hv)⟩
theorem vars_eval (x:List Rat) (U:List AffQ):(varsF x.length).map (evalA (evalU x U))=x:=by
 obtain ⟨z,hz⟩:=evalU_ext U x;unfold varsF;rw [List.map_map]
 refine List.ext_getElem (by simp) fun i h1 h2=>?_
 simp only [List.getElem_map,List.getElem_range,Function.comp_apply];rw [evalA_var,hz,List.getD_eq_getElem?_getD,List.getElem?_append_left h2,List.getElem?_eq_getElem h2];rfl
structure LowI (x:List Rat) (input:List Int) (S:List (List Int)) (U:List AffQ) (YF:List (List AffQ)) (YQ:List (List Rat)):Prop where
 good:GoodU x.length U
 gY:∀ y ∈ YF,GoodF (x.length+U.length) y
 ev:YF.map (fun y=>y.map (evalA (evalU x U)))=YQ
 len:S.length=YQ.length
 size:∀ (j:Nat) (s:List Int) (y:List Rat),S[j]? =some s->YQ[j]? =some y->(y.length:Int)=sizeL s
 x0:(x.length:Int)=sizeL input
theorem LowI.start {x:List Rat} {input:List Int} (h:(x.length:Int)=sizeL input):LowI x input [] [] [] []:=⟨GoodU.nil _,by simp,rfl,rfl,by simp,h⟩
theorem LowI.curr {x:List Rat} {input:List Int} {S:List (List Int)} {U:List AffQ} {YF:List (List AffQ)} {YQ:List (List Rat)} (h:LowI x input S U YF YQ):
  GoodF (x.length+U.length) (currF (varsF x.length) YF)/\(currF (varsF x.length) YF).map (evalA (evalU x U))=currQ x YQ:=by
 unfold currF currQ;rw [<- h.ev,List.getLast?_map]
 cases hy:YF.getLast? with
 | none=>exact ⟨(vars_good _).mono (by omega),vars_eval x U⟩
 | some y=>exact ⟨h.gY y (List.mem_of_getLast? hy),rfl⟩
theorem LowI.frm {x:List Rat} {input:List Int} {S:List (List Int)} {U:List AffQ} {YF:List (List AffQ)} {YQ:List (List Rat)} (h:LowI x input S U YF YQ) (f:Int):
  GoodF (x.length+U.length) (fromF (varsF x.length) YF f)/\(fromF (varsF x.length) YF f).map (evalA (evalU x U))=fromQ x YQ f:=by
 unfold fromF fromQ
 split
 ·rw [<- h.ev,List.getD_eq_getElem?_getD,List.getD_eq_getElem?_getD,List.getElem?_map]
  cases hy:YF[f.toNat]? with
  | none=>exact ⟨fun g hg=>(by cases hg),rfl⟩
  | some y=>exact ⟨h.gY y (List.mem_of_getElem? hy),rfl⟩
 ·exact ⟨(vars_good _).mono (by omega),vars_eval x U⟩
theorem LowI.step {x:List Rat} {input:List Int} {S:List (List Int)} {U:List AffQ} {YF:List (List AffQ)} {YQ:List (List Rat)} {l:LayL} (h:LowI x input S U YF YQ) (hl:(outSL input S l).2=0):
  LowI x input (S++[(outSL input S l).1]) (lowLay x.length U l (currL input S) (currF (varsF x.length) YF) (fromF (varsF x.length) YF l.frm)).1 (YF++[(lowLay x.length U l (currL input S) (currF (varsF x.length) YF) (fromF (varsF x.length) YF l.frm)).2])
   (YQ++[layQ l (currL input S) (currQ x YQ) (fromQ x YQ l.frm)]):=by
 obtain ⟨c1,c2⟩:=h.curr;obtain ⟨f1,f2⟩:=h.frm l.frm;obtain ⟨g1,⟨V,hV⟩,g3,g4⟩:=lowLay_ok h.good c1 f1 (fit_of hl).1;rw [c2,f2] at g4
 refine ⟨g1,?_,?_,by simp [h.len],?_,h.x0⟩
 ·intro y hy
  rcases List.mem_append.1 hy with e | e
  ·exact (h.gY y e).mono (by rw [hV,List.length_append];omega)
  ·simp at e;subst e;exact g3
 ·have p1:YF.map (fun y=>y.map (evalA (evalU x (lowLay x.length U l (currL input S) (currF (varsF x.length) YF) (fromF (varsF x.length) YF l.frm)).1)))=YQ:=by
   rw [<- h.ev]
   refine List.map_congr_left fun y hy=>?_
   rw [hV];exact map_more (h.gY y hy)
  rw [List.map_append,p1]
  congr 1
  exact congrArg (fun z=>[z]) g4
 ·intro j s y hs hy
  by_cases hj:j < S.length
  ·rw [List.getElem?_append_left hj] at hs;rw [List.getElem?_append_left (by rw [<- h.len];exact hj)] at hy;exact h.size j s y hs hy
  ·have hlt:=(List.getElem?_eq_some_iff.1 hs).1;simp only [List.length_append,List.length_cons,List.length_nil] at hlt;obtain rfl:j=S.length:=by omega
   have e1:s=(outSL input S l).1:=by simpa using hs.symm
   rw [h.len] at hy;have e2:y=layQ l (currL input S) (currQ x YQ) (fromQ x YQ l.frm):=by simpa using hy.symm
   rw [e1,e2];exact layQ_len hl (curr_size h.len h.size h.x0)
theorem greatF_len (nI:Nat):∀ (fuel:Nat) (U l:List AffQ),1<=l.length->l.length<=fuel->(greatF nI fuel U l).1.length=U.length+(l.length - 1)
 | 0,U,l,h1,h2=>by omega
 | fuel+1,U,l,h1,h2=>by
  by_cases k:l.length=1
  ·rw [greatF_one k];show U.length=_
   omega
  ·obtain ⟨h,hh⟩:∃ h,h=(l.length+1) / 2:=⟨_,rfl⟩
   have lt:(l.take h).length=h:=by rw [List.length_take];omega
   have ld:(l.drop h).length=l.length - h:=List.length_drop;have a:=greatF_len nI fuel U (l.take h) (by omega) (by omega);obtain ⟨p1,hp1⟩:∃ p,p=greatF nI fuel U (l.take h):=⟨_,rfl⟩
   rw [<- hp1] at a;obtain ⟨U1,f1⟩:=p1;have b:=greatF_len nI fuel U1 (l.drop h) (by omega) (by omega);obtain ⟨p2,hp2⟩:∃ p,p=greatF nI fuel U1 (l.drop h):=⟨_,rfl⟩
   rw [<- hp2] at b;obtain ⟨U2,f2⟩:=p2;rw [greatF_more (U1:=U1) (U2:=U2) (a:=f1) (b:=f2) (by omega) (by rw [<- hh];exact hp1.symm) (by rw [<- hh];exact hp2.symm)];simp only at a b;show (U2++[addA (-1) f2 f1]).length=_
   rw [List.length_append];show U2.length+1=_
   omega
theorem foldU_cnt {β:Type} {f:List AffQ->β->List AffQ × AffQ} {k:Nat}:∀ (l:List β) (U:List AffQ),(∀ b ∈ l,∀ U,(f U b).1.length=U.length+k)->(foldU f l U).1.length=U.length+k * l.length
 | [],U,_=>by show U.length=_;simp
 | b::r,U,h=>by
  show (foldU f r (f U b).1).1.length=_
  rw [foldU_cnt r (f U b).1 (fun b' hb'=>h b' (by simp [hb'])),h b (by simp),List.length_cons,Nat.mul_succ];omega
def cnt1 (l:LayL) (n:Int):Int:=if l.kind=5 then n else if l.kind=3 then (l.kh * l.kw - 1) * n else 0
theorem lowLay_cnt {nI:Nat} {U:List AffQ} {l:LayL} {s:List Int} {X fr:List AffQ} (hf:FitL l s):((lowLay nI U l s X fr).1.length:Int)=U.length+cnt1 l ((lowLay nI U l s X fr).2.length:Int):=by
 unfold lowLay cnt1
 by_cases k1:l.kind=1
 ·rw [if_pos k1,if_neg (by omega),if_neg (by omega)];simp
 rw [if_neg k1]
 by_cases k2:l.kind=2
 ·rw [if_pos k2,if_neg (by omega),if_neg (by omega)];simp
 rw [if_neg k2]
 by_cases k3:l.kind=3
 ·rw [if_pos k3,if_neg (by omega),if_pos k3]
  cases hf with
  | pool q hk hq ht hs e1 e2 e3 e4 hp hwl hz=>
   rw [hwl];have hC:(s.getD 0 0).toNat=q.C:=by rw [hs];rfl
   have hn:l.kh.toNat * l.kw.toNat=q.kh * q.kw:=by rw [e1,e2];rfl
   have hlen:=grps_len (q:=q) hC hn;have hpos:1<=l.kh.toNat * l.kw.toNat:=by rw [hn];exact Nat.mul_pos hq.kh1 hq.kw1
   rw [foldU_len,foldU_cnt (k:=l.kh.toNat * l.kw.toNat - 1) _ U (fun g hg U'=>by
    have hgl:=hlen g hg;have:=greatF_len nI g.length U' (valsF g X) (by rw [valsF_len];omega) (by rw [valsF_len];exact Nat.le_refl _);rw [valsF_len,hgl] at this;rw [<- hgl] at this ⊢;exact this)]
   have e:l.kh * l.kw - 1=((l.kh.toNat * l.kw.toNat - 1:Nat):Int):=by
    rw [Int.natCast_sub hpos,e1,e2];simp
   rw [e];simp
  | dense R hk=>omega
  | conv q O hk=>omega
  | keep hk=>omega
  | add hk=>omega
 rw [if_neg k3]
 by_cases k4:l.kind=4
 ·rw [if_pos k4,if_neg (by omega),if_neg k3];simp
 rw [if_neg k4]
 by_cases k5:l.kind=5
 ·rw [if_pos k5,if_pos k5,foldU_len,foldU_cnt (k:=1) X U (fun f _ U'=>by show (U'++[f]).length=_;simp)];simp
 rw [if_neg k5,if_neg k5,if_neg k3]
 split <;> simp
theorem low_cnt {x:List Rat} {input:List Int}:∀ {L:List LayL} {S T:List (List Int)} {U:List AffQ} {YF:List (List AffQ)} {YQ:List (List Rat)},LowI x input S U YF YQ->Chain input S T L->
  ((lowFrom x.length input (varsF x.length) S YF U L).1.length:Int)=U.length+cntL L T
 | [],S,T,U,YF,YQ,h,hc=>by
  have:T=[]:=List.eq_nil_of_length_eq_zero hc.1;subst this;show (U.length:Int)=U.length+0
  omega
 | l::r,S,T,U,YF,YQ,h,hc=>by
  obtain ⟨s,T',rfl,ho,hc'⟩:=chain_head hc;have hl:(outSL input S l).2=0:=by rw [ho]
  have e:(outSL input S l).1=s:=by rw [ho]
  have hs:=h.step (l:=l) hl;obtain ⟨c1,c2⟩:=h.curr;obtain ⟨f1,f2⟩:=h.frm l.frm;obtain ⟨_,_,_,g4⟩:=lowLay_ok h.good c1 f1 (fit_of hl).1;have hlen:((lowLay x.length U l (currL input S) (currF (varsF x.length) YF) (fromF (varsF x.length) YF l.frm)).2.length:Int)=sizeL s:=by
   have:=congrArg List.length g4;rw [List.length_map,c2,f2] at this;rw [this,layQ_len hl (curr_size h.len h.size h.x0),e]
  have h1:=lowLay_cnt (nI:=x.length) (U:=U) (X:=currF (varsF x.length) YF) (fr:=fromF (varsF x.length) YF l.frm) (fit_of hl).1;rw [hlen] at h1;have hr:=low_cnt hs (by rw [e];exact hc');rw [e] at hr;show ((lowFrom x.length input (varsF x.length) (S++[(outSL input S l).1]) _ _ r).1.length:Int)=U.length+(cnt1 l (sizeL s)+cntL r T')
  rw [e,hr,h1];omega
theorem lower_count {m:ModL} {G:GraphQ} (h:lowerL m=(G,0)):(G.units.length:Int)=(countL m).1/\(countL m).2=0:=by
 unfold lowerL at h;unfold countL
 by_cases h0:(shapesL m).2.2=0
 ·rw [if_pos h0] at h ⊢
  split at h
  ·simp [emptyG] at h
  ·obtain ⟨T,hc,hT⟩:∃ T,Chain m.input [] T m.layers/\(shapesL m).1=T:=by
    rcases shapesL_cases m with ⟨_,k⟩ | ⟨_,⟨T,hc,hT⟩ | ⟨k,_⟩⟩
    ·rw [k] at h0;simp at h0
    ·exact ⟨T,hc,by rw [hT]⟩
    ·omega
   obtain ⟨x,hx⟩:∃ x:List Rat,x.length=(sizeL m.input).toNat:=⟨List.replicate _ 0,List.length_replicate ..⟩
   have hsz:(x.length:Int)=sizeL m.input:=by
    rw [hx];have:0<=sizeL m.input:=by
     rcases shapesL_cases m with ⟨_,k⟩ | ⟨hv,_⟩
     ·rw [k] at h0;simp at h0
     ·unfold validM at hv;simp only [Bool.and_eq_true] at hv;obtain ⟨n,e,_⟩:=sizeL_nn hv.1;omega
    omega
   have hG:G=⟨(sizeL m.input).toNat,(lowFrom (sizeL m.input).toNat m.input (varsF (sizeL m.input).toNat) [] [] [] m.layers).1,currF (varsF (sizeL m.input).toNat) (lowFrom (sizeL m.input).toNat m.input (varsF (sizeL m.input).toNat) [] [] [] m.layers).2⟩:=(congrArg Prod.fst h).symm;subst hG;rw [<- hx];have hcn:=low_cnt (LowI.start hsz) hc;show ((lowFrom x.length m.input (varsF x.length) [] [] [] m.layers).1.length:Int)=_/\_
   rw [hcn,hT];simp
 ·rw [if_neg h0] at h;exact absurd (congrArg Prod.snd h) h0
theorem lowLay_app {nI:Nat} {U:List AffQ} {l:LayL} {s:List Int} {X fr:List AffQ}:∃ V,(lowLay nI U l s X fr).1=U++V:=by
 have nil:∀ Z:List AffQ,∃ V,(U,Z).1=U++V:=fun Z=>⟨[],by rw [List.append_nil]⟩
 have fold:∀ {β:Type} (f:List AffQ->β->List AffQ × AffQ),(∀ U b,∃ V,(f U b).1=U++V)->∀ (L:List β) (U:List AffQ),∃ V,(foldU f L U).1=U++V:=by
  intro β f hf L
  induction L with
  | nil=>exact fun U=>⟨[],by rw [List.append_nil];rfl⟩
  | cons b r ih=>
   intro U;obtain ⟨V1,e1⟩:=hf U b;obtain ⟨V2,e2⟩:=ih (f U b).1;exact ⟨V1++V2,by show (foldU f r (f U b).1).1=_;rw [e2,e1,List.append_assoc]⟩
 unfold lowLay
 split
 ·exact nil _
 ·split
  ·exact nil _
  ·split
   ·exact fold _ (fun U g=>greatF_app _ _ _ _) _ _
   ·split
    ·exact nil _
    ·split
     ·exact fold _ (fun U f=>⟨[f],rfl⟩) _ _
     ·split
      ·exact nil _
      ·exact nil _
theorem lowFrom_units {nI:Nat} {input:List Int} {x:List AffQ}:∀ {L:List LayL} {S:List (List Int)} {Y:List (List AffQ)} {U:List AffQ},∃ V,(lowFrom nI input x S Y U L).1=U++V
 | [],_,_,U=>⟨[],by rw [List.append_nil];rfl⟩
 | l::L,S,Y,U=>by
  obtain ⟨V1,e1⟩:=lowLay_app (nI:=nI) (U:=U) (l:=l) (s:=currL input S) (X:=currF x Y) (fr:=fromF x Y l.frm);obtain ⟨V2,e2⟩:=lowFrom_units (nI:=nI) (input:=input) (x:=x) (L:=L) (S:=S++[(outSL input S l).1]) (Y:=Y++[(lowLay nI U l (currL input S) (currF x Y) (fromF x Y l.frm)).2]) (U:=(lowLay nI U l (currL input S) (currF x Y) (fromF x Y l.frm)).1);exact ⟨V1++V2,by show (lowFrom nI input x (S++[(outSL input S l).1]) _ _ L).1=_;rw [e2,e1,List.append_assoc]⟩
def Pay (D B:Nat):Prop:=B * D+D < 4294967296^524285
theorem Pay.le {D B D' B':Nat} (h:Pay D B) (hD:D'<=D) (hB:B'<=B):Pay D' B':=
 Nat.lt_of_le_of_lt (Nat.add_le_add (Nat.mul_le_mul hB hD) hD) h
theorem Pay.bd {D B:Nat} {q:Rat} (h:Pay D B) (hq:Bd D B q):RatLe (ratL q) 1048575:=(hq.le h).mono (by decide)
theorem Room.pay {D B D' B':Nat} (h:Room D B) (hD:D'<=D * WQ) (hB:B'<=9671406556917033397649408 * B):Pay D' B':=
 Nat.lt_of_le_of_lt (Nat.add_le_add (Nat.mul_le_mul hB hD) hD) h
theorem mem_coef:∀ {l:List (Nat × Rat)} {lo:Nat} {t:Nat × Rat},CanF l lo->t ∈ l->lo<=t.1/\coefT l t.1=t.2
 | (u,q)::r,lo,t,⟨h1,h2,h3⟩,h=>by
  rcases List.mem_cons.1 h with rfl | h
  ·exact ⟨h1,if_pos rfl⟩
  ·obtain ⟨k1,k2⟩:=mem_coef h3 h
   refine ⟨by omega,?_⟩
   show (if u=t.1 then q else coefT r t.1)=t.2
   rw [if_neg (by omega),k2]
theorem can_len:∀ {l:List (Nat × Rat)} {lo:Nat},CanF l lo->l=[] ∨ lo+l.length<=topT l
 | [],_,_=>.inl rfl
 | (u,q)::r,lo,⟨h1,_,h3⟩=>by
  refine .inr ?_
  show lo+(r.length+1)<=max (u+1) (topT r)
  rcases can_len h3 with rfl | h
  ·simp;omega
  ·omega
theorem can_few {l:List (Nat × Rat)} {lo:Nat} (h:CanF l lo):l.length<=topT l:=by
 rcases can_len h with rfl | h
 ·exact Nat.zero_le _
 ·omega
structure BdF (D B N:Nat) (f:AffQ):Prop where
 can:f.Can
 top:bndF N f
 c:Bd D B f.c
 t:∀ v,Bd D B (coefT f.ts v)
theorem BdF.mem {D B N:Nat} {f:AffQ} (h:BdF D B N f) {t:Nat × Rat} (ht:t ∈ f.ts):Bd D B t.2:=by
 have:=h.t t.1;rw [(mem_coef h.can ht).2] at this;exact this
theorem BdF.few {D B N:Nat} {f:AffQ} (h:BdF D B N f):f.ts.length<=N:=Nat.le_trans (can_few h.can) h.top
theorem BdF.mono {D B N B' N':Nat} {f:AffQ} (h:BdF D B N f) (hb:B<=B') (hn:N<=N'):BdF D B' N' f:=⟨h.can,h.top.mono hn,h.c.mono hb,fun v=>(h.t v).mono hb⟩
theorem BdF.bump {D B N k:Nat} {f:AffQ} (h:BdF D B N f) (hk:0 < k):BdF (D * k) B N f:=⟨h.can,h.top,h.c.bump hk,fun v=>(h.t v).bump hk⟩
theorem BdF.pos {D B N:Nat} {f:AffQ} (h:BdF D B N f):0 < D:=h.c.pos
theorem BdF.zero {D:Nat} (B N:Nat) (h:0 < D):BdF D B N zerA:=⟨zerA_can,bnd_zer N,Bd.zero h,fun _=>Bd.zero h⟩
theorem Bd.one {D B:Nat} (h:0 < D) (hB:1<=B):Bd D B 1:=by
 have:Bd (1 * D) B 1:=Bd.bump (D:=1) ⟨by omega,1,by decide,by simpa using hB⟩ h
 rwa [Nat.one_mul] at this
theorem BdF.var {D B N v:Nat} (h:0 < D) (hB:1<=B) (hv:v < N):BdF D B N (varA v):=by
 refine ⟨varA_can v,bnd_var hv,Bd.zero h,fun u=>?_⟩
 show Bd D B (if v=u then 1 else 0)
 split
 ·exact Bd.one h hB
 ·exact Bd.zero h
theorem BdF.num {D B:Nat} (N:Nat) {q:Rat} (h:Bd D B q):BdF D B N (numA q):=⟨numA_can q,bnd_num N q,h,fun _=>Bd.zero h.pos⟩
theorem BdF.add {D B C N:Nat} {f g:AffQ} (hf:BdF D B N f) (hg:BdF D C N g):BdF D (B+C) N (addA 1 f g):=by
 refine ⟨addA_can _ _ _,bnd_add hf.top hg.top,?_,fun v=>?_⟩
 ·show Bd D (B+C) (f.c+1 * g.c)
  rw [Rat.one_mul];exact hf.c.add hg.c
 ·show Bd D (B+C) (coefT (addT 1 f.ts g.ts) v)
  rw [addT_coef,Rat.one_mul];exact (hf.t v).add (hg.t v)
theorem BdF.sc {D B W C N:Nat} {k:Rat} {f:AffQ} (hk:Bd W C k) (hf:BdF D B N f):BdF (W * D) (C * B) N (scA k f):=by
 refine ⟨addA_can _ _ _,bnd_add (bnd_zer N) hf.top,?_,fun v=>?_⟩
 ·show Bd (W * D) (C * B) (0+k * f.c)
  rw [Rat.zero_add];exact hk.mul hf.c
 ·show Bd (W * D) (C * B) (coefT (addT k [] f.ts) v)
  rw [addT_coef];show Bd (W * D) (C * B) (0+k * coefT f.ts v)
  rw [Rat.zero_add];exact hk.mul (hf.t v)
def BdFs (D B N:Nat) (x:List AffQ):Prop:=∀ f ∈ x,BdF D B N f
theorem BdFs.at {D B N:Nat} {x:List AffQ} (h:BdFs D B N x) (hD:0 < D) (k:Nat):BdF D B N (x.getD k zerA):=by
 rw [List.getD_eq_getElem?_getD]
 cases e:x[k]? with
 | none=>exact BdF.zero B N hD
 | some f=>exact h f (List.mem_of_getElem? e)
theorem BdFs.mono {D B N B' N':Nat} {x:List AffQ} (h:BdFs D B N x) (hb:B<=B') (hn:N<=N'):BdFs D B' N' x:=fun f hf=>(h f hf).mono hb hn
theorem BdFs.bump {D B N k:Nat} {x:List AffQ} (h:BdFs D B N x) (hk:0 < k):BdFs (D * k) B N x:=fun f hf=>(h f hf).bump hk
theorem BdFs.vals {D B N:Nat} {x:List AffQ} (h:BdFs D B N x) (hD:0 < D) (ix:List Int):BdFs D B N (valsF ix x):=by
 intro f hf;obtain ⟨i,_,rfl⟩:=List.mem_map.1 hf;exact h.at hD _
theorem BdFs.nil (D B N:Nat):BdFs D B N []:=fun f hf=>by cases hf
theorem BdF.sum {W D C B N:Nat} {b:Rat} {ws:List Rat} {x:List AffQ} (hb:Bd W C b) (hw:BdL W C ws) (hx:BdFs D B N x) (hD:0 < D) (off:Nat) (ix:List Int) (k:Nat):BdF (W * D) (C+k * (C * B)) N (sumF b ws off ix x k):=by
 induction k with
 | zero=>rw [Nat.zero_mul,Nat.add_zero];exact (BdF.num N hb).bump hD
 | succ k ih=>
  unfold sumF;rw [Nat.succ_mul, <- Nat.add_assoc]
  split
  ·exact ih.add (BdF.sc (hw.at hb.pos _) (hx.at hD _))
  ·exact ih.mono (by omega) (Nat.le_refl _)
theorem BdF.plus {D B N:Nat} {x:List AffQ} (hx:BdFs D B N x) (hD:0 < D) (k:Nat):BdF D (k * B) N (plusF x k):=by
 induction k with
 | zero=>exact BdF.zero _ N hD
 | succ k ih=>
  rw [Nat.succ_mul];exact ih.add (hx.at hD k)
theorem Bd.inv {n:Nat} (hn:0 < n):Bd n 1 (1 / ((n:Int):Rat)):=by
 have h:Bd 1 (n * 1) ((n:Int):Rat):=⟨by omega,(n:Int),by rw [Rat.mkRat_one],by simp⟩
 have:=Bd.divN (D:=1) (B:=1) (n:=n) (q:=1) ⟨by omega,1,by decide,by simp;omega⟩ hn
 rwa [Nat.one_mul] at this
theorem BdF.mean {D B N:Nat} {x:List AffQ} (hx:BdFs D B N x) (hD:0 < D) (hl:1<=x.length):BdF (x.length * D) (1 * (x.length * B)) N (meanF x):=BdF.sc (Bd.inv hl) (BdF.plus hx hD _)
end Go.Proofs.YtfgmmghmmfmdgaaGreat
