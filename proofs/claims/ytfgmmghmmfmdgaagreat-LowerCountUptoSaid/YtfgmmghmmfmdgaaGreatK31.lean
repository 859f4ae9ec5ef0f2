/-
  Contracts of the functions that the statement reaches: LinD, LinK.
-/
import Derived.Test.YtfgmmghmmfmdgaaGreatK30
set_option linter.all false
set_option maxRecDepth 100000
set_option maxHeartbeats 3200000
namespace Go.Proofs.YtfgmmghmmfmdgaaGreat
open Go.RowKit
open Go.Lib (hid)
def oneT (v:Nat) (q:Rat):List (Nat × Rat):=if q=0 then [] else [(v,q)]
def insT:List (Nat × Rat)->Nat->Rat->List (Nat × Rat)
 | [],v,q=>oneT v q
 | (u,p)::r,v,q=>if u=v then oneT v (p+q)++r else if v < u then oneT v q++(u,p)::r else (u,p)::insT r v q
theorem coef_one (v:Nat) (q:Rat) (u:Nat):coefT (oneT v q) u=if v=u then q else 0:=by
 unfold oneT
 split
 ·rename_i h;rw [h];split <;> rfl
 ·rfl
theorem can_one (v:Nat) (q:Rat):CanF (oneT v q) v:=by
 unfold oneT
 split
 ·trivial
 ·rename_i h;exact ⟨Nat.le_refl _,h,trivial⟩
theorem top_one (v:Nat) (q:Rat):topT (oneT v q)<=v+1:=by
 unfold oneT
 split
 ·exact Nat.zero_le _
 ·show max (v+1) 0<=v+1;omega
theorem insT_can:∀ {l:List (Nat × Rat)} {lo:Nat} (v:Nat) (q:Rat),CanF l lo->CanF (insT l v q) (min lo v)
 | [],lo,v,q,_=>(can_one v q).mono (by omega)
 | (u,p)::r,lo,v,q,⟨h1,h2,h3⟩=>by
  show CanF (if u=v then oneT v (p+q)++r else if v < u then oneT v q++(u,p)::r else (u,p)::insT r v q) (min lo v)
  split
  ·rename_i h
   subst h;exact (can_app (can_one u (p+q)) h3 (top_one u _) (by omega)).mono (by omega)
  ·split
   ·rename_i h
    exact (can_app (m:=(u,p)::r) (lo':=u) (can_one v q) ⟨Nat.le_refl _,h2,h3⟩ (Nat.le_trans (top_one v q) h) (by omega)).mono (by omega)
   ·refine ⟨by omega,h2,?_⟩
    exact (insT_can v q h3).mono (by omega)
theorem insT_coef:∀ {l:List (Nat × Rat)} {lo:Nat} (v:Nat) (q:Rat),CanF l lo->∀ u,coefT (insT l v q) u=coefT l u+(if v=u then q else 0)
 | [],_,v,q,_,u=>by
  show coefT (oneT v q) u=0+_
  rw [coef_one,Rat.zero_add]
 | (w,p)::r,lo,v,q,⟨h1,h2,h3⟩,u=>by
  show coefT (if w=v then oneT v (p+q)++r else if v < w then oneT v q++(w,p)::r else (w,p)::insT r v q) u=_
  by_cases e1:w=v
  ·subst e1;rw [if_pos rfl,coef_app h3 (top_one w _),coef_one,coef_cons w p r (lo:=0) h3 u]
   split <;> grind
  ·rw [if_neg e1]
   by_cases e2:v < w
   ·rw [if_pos e2,coef_app (m:=(w,p)::r) (lo:=w) ⟨Nat.le_refl _,h2,h3⟩ (Nat.le_trans (top_one v q) e2),coef_one]
    grind
   ·rw [if_neg e2];have hc:CanF (insT r v q) (w+1):=(insT_can v q h3).mono (by omega);rw [coef_cons w p (insT r v q) (lo:=0) hc u,coef_cons w p r (lo:=0) h3 u,insT_coef v q h3 u]
    grind
def lowT (l:List (Nat × Rat)) (v:Nat):Prop:=∀ t ∈ l,t.1 < v
theorem insT_low:∀ {a b:List (Nat × Rat)} {v:Nat} {q:Rat},lowT a v->insT (a++b) v q=a++insT b v q
 | [],_,_,_,_=>rfl
 | (u,p)::r,b,v,q,h=>by
  have hu:u < v:=h (u,p) (by simp);show (if u=v then oneT v (p+q)++(r++b) else if v < u then oneT v q++(u,p)::(r++b) else (u,p)::insT (r++b) v q)=_
  rw [if_neg (by omega),if_neg (by omega),insT_low (fun t ht=>h t (by simp [ht]))];rfl
theorem insT_at {a r:List (Nat × Rat)} {v:Nat} {p q:Rat} (h:lowT a v):insT (a++(v,p)::r) v q=(a++oneT v (p+q))++r:=by
 rw [insT_low h];show a++(if v=v then oneT v (p+q)++r else _)=_
 rw [if_pos rfl,List.append_assoc]
theorem insT_gt {a r:List (Nat × Rat)} {u v:Nat} {p q:Rat} (h:lowT a v) (hu:v < u):insT (a++(u,p)::r) v q=(a++oneT v q)++(u,p)::r:=by
 rw [insT_low h];show a++(if u=v then _ else if v < u then oneT v q++(u,p)::r else _)=_
 rw [if_neg (by omega),if_pos hu,List.append_assoc]
theorem insT_end {a:List (Nat × Rat)} {v:Nat} {q:Rat} (h:lowT a v):insT a v q=a++oneT v q:=by
 have:=insT_low (b:=[]) (q:=q) h;rw [List.append_nil] at this;exact this
def foldT (f:List (Nat × Rat)):List (Nat × Rat)->List (Nat × Rat)
 | []=>f
 | (v,q)::r=>foldT (insT f v q) r
theorem foldT_snoc:∀ (f g:List (Nat × Rat)) (v:Nat) (q:Rat),foldT f (g++[(v,q)])=insT (foldT f g) v q
 | _,[],_,_=>rfl
 | f,(u,p)::r,v,q=>foldT_snoc (insT f u p) r v q
theorem foldT_can:∀ {f g:List (Nat × Rat)},CanF f 0->CanF (foldT f g) 0
 | _,[],h=>h
 | f,(v,q)::r,h=>foldT_can (g:=r) ((insT_can v q h).mono (Nat.zero_le _))
theorem foldT_coef:∀ {f g:List (Nat × Rat)} {lo:Nat},CanF f 0->CanF g lo->∀ u,coefT (foldT f g) u=coefT f u+coefT g u
 | f,[],_,_,_,u=>by show coefT f u=coefT f u+0;rw [Rat.add_zero]
 | f,(v,q)::r,lo,h,⟨g1,g2,g3⟩,u=>by
  show coefT (foldT (insT f v q) r) u=_
  rw [foldT_coef ((insT_can v q h).mono (Nat.zero_le _)) g3 u,insT_coef v q h u,coef_cons v q r (lo:=0) g3 u]
  grind
theorem foldT_add {f g:List (Nat × Rat)} (hf:CanF f 0) (hg:CanF g 0):foldT f g=addT 1 f g:=
 addT_of (foldT_can hf) (fun v=>by rw [foldT_coef hf hg v,Rat.one_mul])
def sclT (k:Rat):List (Nat × Rat)->List (Nat × Rat)
 | []=>[]
 | (u,p)::r=>oneT u (p * k)++sclT k r
theorem sclT_snoc (k:Rat) (u:Nat) (p:Rat):∀ l:List (Nat × Rat),sclT k (l++[(u,p)])=sclT k l++oneT u (p * k)
 | []=>by show oneT u (p * k)++[]=[]++oneT u (p * k);rw [List.append_nil,List.nil_append]
 | (w,q)::r=>by
  show oneT w (q * k)++sclT k (r++[(u,p)])=(oneT w (q * k)++sclT k r)++oneT u (p * k)
  rw [sclT_snoc k u p r,List.append_assoc]
theorem sclT_can (k:Rat):∀ {l:List (Nat × Rat)} {lo:Nat},CanF l lo->CanF (sclT k l) lo
 | [],_,_=>trivial
 | (u,p)::r,lo,⟨h1,h2,h3⟩=>(can_app (can_one u (p * k)) (sclT_can k h3) (top_one u _) (by omega)).mono h1
theorem sclT_coef (k:Rat):∀ {l:List (Nat × Rat)} {lo:Nat},CanF l lo->∀ v,coefT (sclT k l) v=k * coefT l v
 | [],_,_,v=>by show (0:Rat)=k * 0;rw [Rat.mul_zero]
 | (u,p)::r,lo,⟨h1,h2,h3⟩,v=>by
  show coefT (oneT u (p * k)++sclT k r) v=_
  rw [coef_app (sclT_can k h3) (top_one u _),coef_one,sclT_coef k h3 v,coef_cons u p r (lo:=0) h3 v]
  split <;> grind
theorem sclT_add {k:Rat} {l:List (Nat × Rat)} (h:CanF l 0):sclT k l=addT k [] l:=
 addT_of (sclT_can k h) (fun v=>by rw [sclT_coef k h v];show _=0+_;rw [Rat.zero_add])
theorem sub_add {f g:List (Nat × Rat)}:addT 1 f (addT (-1) [] g)=addT (-1) f g:=
 addT_of (addT_can _ _ _) (fun v=>by rw [addT_coef,addT_coef];show _+1 * (0+ -1 * _)=_;grind)
theorem subA_add (f g:AffQ):addA 1 f (scA (-1) g)=addA (-1) f g:=by
 unfold scA addA zerA;simp only;rw [sub_add]
 congr 1
 grind
structure Box4 (w:World) (g:Nat) (p0 p1 p2 p3:Value):Prop where
 c0:w.cell? ⟨g,0,none⟩=some p0
 c1:w.cell? ⟨g,1,none⟩=some p1
 c2:w.cell? ⟨g,2,none⟩=some p2
 c3:w.cell? ⟨g,3,none⟩=some p3
 free:∀ o,w.frozen? ⟨g,o,none⟩=false
 lt:g < w.heap.size
inductive Sq where
 | val (v:Value)
 | rat (q:Rat)
 | trm (v:Nat) (q:Rat)
 | one (v:Nat) (q:Rat)
 | frm (f:AffQ)
 | onf (f:AffQ)
 | new4 (B:Nat)
 | num (q:Rat)
def GQ (L:List Sq) (i:Nat) (v:Value) (w:World):Prop:=
 match L[i]? with
 | some (.val x)=>v=x
 | some (.rat q)=>RatV w v (ratL q)
 | some (.trm u q)=>∃ p1 p2 p3,v=.agg #[.int .i64 (u:Int),p1,p2,p3]/\RatC w p1 p2 p3 q
 | some (.one u q)=>One4 TermP w v (u,q)
 | some (.frm f)=>FormV w v f
 | some (.onf f)=>One4 FormP w v f
 | some (.new4 B)=>∃ b,v=.pointer (some ⟨b,0,none⟩)/\B<=b/\Box4 w b (.slice none 0 0) (.bool false) (.slice none 0 0) (.slice none 0 0)/\NoInt w b
 | some (.num q)=>∃ p1 p2 p3,v=.agg #[.slice none 0 0,p1,p2,p3]/\RatC w p1 p2 p3 q
 | none=>True
theorem Box4.belowB {w w':World} {g B:Nat} {p0 p1 p2 p3:Value} (h:Box4 w g p0 p1 p2 p3) (hb:Below B w w') (hg:g < B):Box4 w' g p0 p1 p2 p3:=
 ⟨(hb.cell (p:=⟨g,0,none⟩) hg).trans h.c0,(hb.cell (p:=⟨g,1,none⟩) hg).trans h.c1,(hb.cell (p:=⟨g,2,none⟩) hg).trans h.c2,(hb.cell (p:=⟨g,3,none⟩) hg).trans h.c3,fun o=>(hb.frozen (p:=⟨g,o,none⟩) hg).trans (h.free o),Nat.lt_of_lt_of_le h.lt hb.size⟩
theorem Box4.below {w w':World} {g:Nat} {p0 p1 p2 p3:Value} (h:Box4 w g p0 p1 p2 p3) (hb:Below w.heap.size w w'):Box4 w' g p0 p1 p2 p3:=h.belowB hb h.lt
theorem GQ_below {L:List Sq} {i:Nat} {v:Value} {w w':World} (h:GQ L i v w) (hb:Below w.heap.size w w'):GQ L i v w':=by
 unfold GQ at h ⊢
 split
 ·rename_i x hx;rw [hx] at h;exact h
 ·rename_i x hx;rw [hx] at h;exact RatV.below h hb
 ·rename_i x y hx;rw [hx] at h;obtain ⟨p1,p2,p3,e,k⟩:=h;exact ⟨p1,p2,p3,e,k.below hb⟩
 ·rename_i x y hx;rw [hx] at h;exact One4.below h termK hb
 ·rename_i x hx;rw [hx] at h;exact FormV.below h hb
 ·rename_i x hx;rw [hx] at h;exact One4.below h formK hb
 ·rename_i x hx;rw [hx] at h;obtain ⟨b,e,l,k1,k2⟩:=h;exact ⟨b,e,l,k1.below hb,k2.below hb k1.lt⟩
 ·rename_i x hx;rw [hx] at h;obtain ⟨p1,p2,p3,e,k⟩:=h;exact ⟨p1,p2,p3,e,k.below hb⟩
 ·trivial
theorem Box4.alloc (w:World) (p0 p1 p2 p3:Value) (T:Nat):Box4 (w.alloc (.cells #[p0,p1,p2,p3] T)) w.heap.size p0 p1 p2 p3:=by
 refine ⟨?_,?_,?_,?_,fun o=>World.frozen?_alloc_new _ _ _ _,by simp⟩ <;> (rw [World.cell?_alloc_at _ _ _ _ rfl];rfl)
theorem Box4.far {w:World} {g h:Nat} {p0 p1 p2 p3:Value} (hb:Box4 w g p0 p1 p2 p3) (hne:h ≠ g) (o:Nat) (v:Value):Box4 (w.setCell ⟨h,o,none⟩ v) g p0 p1 p2 p3:=
 ⟨(far2 hne).trans hb.c0,(far2 hne).trans hb.c1,(far2 hne).trans hb.c2,(far2 hne).trans hb.c3,fun i=>by simp [World.frozen?_setCell,hb.free],by simpa using hb.lt⟩
theorem Box4.set0 {w:World} {g:Nat} {p0 p1 p2 p3:Value} (h:Box4 w g p0 p1 p2 p3) (v:Value):Box4 (w.setCell ⟨g,0,none⟩ v) g v p1 p2 p3:=by
 refine ⟨World.cell?_setCell_same _ _ _ h.c0,?_,?_,?_,fun i=>by simp [World.frozen?_setCell,h.free],by simpa using h.lt⟩
 ·exact (World.cell?_setCell_other _ _ _ _ (by intro e;cases e)).trans h.c1
 ·exact (World.cell?_setCell_other _ _ _ _ (by intro e;cases e)).trans h.c2
 ·exact (World.cell?_setCell_other _ _ _ _ (by intro e;cases e)).trans h.c3
theorem Box4.grown {w w':World} {g:Nat} {p0 p1 p2 p3 v:Value} (h:Box4 w g p0 p1 p2 p3) (hg:w.grownBy w' v.ownBlock) (hne:v.ownBlock ≠ some g):Box4 w' g p0 p1 p2 p3:=by
 have hb:∀ o,w'.cell? ⟨g,o,none⟩=w.cell? ⟨g,o,none⟩:=fun o=>World.cell?_of_block (hg.block g h.lt (fun e=>hne e.symm))
 have hf:∀ o,w'.frozen? ⟨g,o,none⟩=w.frozen? ⟨g,o,none⟩:=fun o=>World.frozen?_of_block (hg.block g h.lt (fun e=>hne e.symm))
 exact ⟨(hb 0).trans h.c0,(hb 1).trans h.c1,(hb 2).trans h.c2,(hb 3).trans h.c3,fun o=>(hf o).trans (h.free o),Nat.lt_of_lt_of_le h.lt hg.size⟩
theorem NoInt.grown {w w':World} {g:Nat} {v:Value} (h:NoInt w g) (hlt:g < w.heap.size) (hg:w.grownBy w' v.ownBlock) (hne:v.ownBlock ≠ some g):NoInt w' g:=
 fun o x e=>h o x ((World.cell?_of_block (hg.block g hlt (fun e=>hne e.symm))).symm.trans e)
theorem RatC.setCell {w:World} {p1 p2 p3:Value} {q:Rat} (h:RatC w p1 p2 p3 q) {g:Nat} (hg:NoInt w g) (o:Nat) (v:Value):RatC (w.setCell ⟨g,o,none⟩ v) p1 p2 p3 q:=by
 obtain ⟨an,ad,cn,cd,e1,e2,e3,l1,l2,u1,u2⟩:=h.ex;exact ⟨an,ad,cn,cd,e1,e2,e3,l1,l2,u1.setCell hg _ _,u2.setCell hg _ _⟩
theorem own_terms_set {T:TypeId} {w:World} {base:Nat} {v:Value} {L:List (Nat × Rat)} (h:Own4 TermP noI T w base v L) {g:Nat} (hg:NoInt w g) (hne:v.ownBlock ≠ some g) (o:Nat) (u:Value):Own4 TermP noI T (w.setCell ⟨g,o,none⟩ u) base v L:=by
 obtain ⟨xs,ho,he⟩:=h.ex
 refine ⟨⟨xs,ownsRow_setCell_other ho hne u,fun j x hj=>?_⟩,fun k hk i z e=>?_⟩
 ·obtain ⟨p0,p1,p2,p3,h0,h1,h2,h3,e0,hr⟩:=he j x hj;exact ⟨p0,p1,p2,p3,h0,h1,h2,h3,e0,hr.setCell hg o u⟩
 ·have hgk:g ≠ k:=fun e=>hne (by rw [e];exact hk)
  exact h.al k hk i z ((far2 hgk).symm.trans e)
structure PutS (w W:World) (base:Nat) (s:Value) (L:List (Nat × Rat)) (p1 p2 p3 q1 q2 q3:Value) (q:Rat):Prop where
 fb:Box4 W w.heap.size s p1 p2 p3
 cb:Box3 W (w.heap.size+1) q1 q2 q3
 rb:Box4 W (w.heap.size+1+1) (.slice none 0 0) (.bool false) (.slice none 0 0) (.slice none 0 0)
 nf:NoInt W w.heap.size
 nr:NoInt W (w.heap.size+1+1)
 own:Own4 TermP noI 84 W base s L
 far:s.ownBlock ≠ some w.heap.size/\s.ownBlock ≠ some (w.heap.size+1+1)
 rc:RatC W q1 q2 q3 q
 bl:Below base w W
theorem PutS.below {w W W':World} {base:Nat} {s:Value} {L:List (Nat × Rat)} {p1 p2 p3 q1 q2 q3:Value} {q:Rat} (h:PutS w W base s L p1 p2 p3 q1 q2 q3 q) (hb:Below W.heap.size W W') (hbase:base<=W.heap.size):PutS w W' base s L p1 p2 p3 q1 q2 q3 q:=
 ⟨h.fb.below hb,h.cb.below hb,h.rb.below hb,h.nf.below hb h.fb.lt,h.nr.below hb h.rb.lt,h.own.below termK hb,h.far,h.rc.below hb,h.bl.trans (hb.mono hbase)⟩
structure PutR (w W:World) (base:Nat) (s s':Value) (L:List (Nat × Rat)) (p1 p2 p3:Value):Prop where
 fb:Box4 W w.heap.size s p1 p2 p3
 rb:Box4 W (w.heap.size+1+1) (.slice none 0 0) (.bool false) (.slice none 0 0) (.slice none 0 0)
 nf:NoInt W w.heap.size
 nr:NoInt W (w.heap.size+1+1)
 own:Own4 TermP noI 84 W base s' L
 far:s'.ownBlock ≠ some w.heap.size/\s'.ownBlock ≠ some (w.heap.size+1+1)
 bl:Below base w W
theorem PutS.done {w W:World} {base:Nat} {s:Value} {L:List (Nat × Rat)} {p1 p2 p3 q1 q2 q3:Value} {q:Rat} (h:PutS w W base s L p1 p2 p3 q1 q2 q3 q):PutR w W base s s L p1 p2 p3:=⟨h.fb,h.rb,h.nf,h.nr,h.own,h.far,h.bl⟩
theorem PutS.app {w W W':World} {base:Nat} {s s':Value} {L L':List (Nat × Rat)} {p1 p2 p3 q1 q2 q3:Value} {q:Rat} (h:PutS w W base s L p1 p2 p3 q1 q2 q3 q) (ho:Own4 TermP noI 84 W' base s' L') (hg:W.grownBy W' s.ownBlock) (hb:Below base W W') (hn:Next W s s'):
  PutR w W' base s s' L' p1 p2 p3:=by
 refine ⟨h.fb.grown hg h.far.1,h.rb.grown hg h.far.2,h.nf.grown h.fb.lt hg h.far.1,h.nr.grown h.rb.lt hg h.far.2,ho,?_,h.bl.trans hb⟩
 rcases hn with e | ⟨k,e,hk⟩
 ·rw [e];exact h.far
 ·have l1:=h.fb.lt;have l2:=h.rb.lt
  constructor
  ·intro e2;rw [e] at e2;cases e2;omega
  ·intro e2;rw [e] at e2;cases e2;omega
theorem PutR.set {w W:World} {base:Nat} {s s':Value} {L:List (Nat × Rat)} {p1 p2 p3:Value} (h:PutR w W base s s' L p1 p2 p3) (hs:∀ x,s' ≠ .int .u32 x) (hbase:base<=w.heap.size):PutR w (W.setCell ⟨w.heap.size,0,none⟩ s') base s' s' L p1 p2 p3:=
 ⟨h.fb.set0 s',h.rb.far (by omega) _ _,h.nf.setCell _ _ hs,h.nr.far (by omega) _ _,own_terms_set h.own h.nf h.far.1 _ _,h.far,h.bl.setCell (p:=⟨w.heap.size,0,none⟩) hbase _⟩
def PutPost (w:World) (base:Nat) (L:List (Nat × Rat)) (b0:Bool) (an:Option Addr) (nn cn:Nat) (ad:Option Addr) (nd cd:Nat) (e:Ending) (w':World):Prop:=
 ∃ a c,e=.returned (.agg #[.slice a L.length c,.bool b0,.slice an nn cn,.slice ad nd cd])/\Own4 TermP noI 84 w' base (.slice a L.length c) L/\Below base w w'
theorem PutR.post {w W:World} {base:Nat} {a:Option Addr} {n c:Nat} {L:List (Nat × Rat)} {b0:Bool} {an ad:Option Addr} {nn cn nd cd:Nat} {s:Value} (h:PutR w W base s (.slice a n c) L (.bool b0) (.slice an nn cn) (.slice ad nd cd)) (hn:L.length=n) (hbase:base<=w.heap.size):
  PutPost w base L b0 an nn cn ad nd cd (.returned (.agg #[.slice a n c,.bool b0,.slice an nn cn,.slice ad nd cd])) ((((W.setCell ⟨w.heap.size+1+1,0,none⟩ (.slice a n c)).setCell ⟨w.heap.size+1+1,1,none⟩ (.bool b0)).setCell ⟨w.heap.size+1+1,2,none⟩ (.slice an nn cn)).setCell ⟨w.heap.size+1+1,3,none⟩ (.slice ad nd cd)):=by
 subst hn;have n1:=h.nr.setCell 0 (.slice a L.length c) (by simp);have n2:=n1.setCell 1 (.bool b0) (by simp);have n3:=n2.setCell 2 (.slice an nn cn) (by simp);have hg:base<=w.heap.size+1+1:=by omega
 exact ⟨a,c,rfl,own_terms_set (own_terms_set (own_terms_set (own_terms_set h.own h.nr h.far.2 _ _) n1 h.far.2 _ _) n2 h.far.2 _ _) n3 h.far.2 _ _,
  (((h.bl.setCell (p:=⟨w.heap.size+1+1,0,none⟩) hg _).setCell (p:=⟨w.heap.size+1+1,1,none⟩) hg _).setCell (p:=⟨w.heap.size+1+1,2,none⟩) hg _).setCell (p:=⟨w.heap.size+1+1,3,none⟩) hg _⟩
theorem sign_zero {q:Rat}:signZ (ratL q).neg (lval (ratL q).num)=0 ↔ q=0:=by
 have h:lval (ratL q).num=q.num.natAbs:=by
  show lval (limbs q.num.natAbs)=_
  exact lval_limbs _
 unfold signZ;rw [h]
 constructor
 ·intro e
  by_cases hz:q.num.natAbs=0
  ·exact Rat.num_eq_zero.1 (by omega)
  ·rw [if_neg hz] at e
   split at e <;> cases e
 ·intro e;rw [if_pos (by rw [e];rfl)]
theorem lPut {w:World} {base n v:Nat} {a:Option Addr} {c:Nat} {b0:Bool} {an ad:Option Addr} {nn cn nd cd:Nat} {vq:Value} {L:List (Nat × Rat)} {q:Rat} (hown:Own4 TermP noI 84 w base (.slice a n c) L) (hn:L.length=n) (hbase:base<=w.heap.size)
  (hq:RatV w vq (ratL q)) (hql:RatLe (ratL q) 1048576) (hnb:n<=1000000):
  Calls Tryz.prog 135 #[.agg #[.slice a n c,.bool b0,.slice an nn cn,.slice ad nd cd],.int .i64 (v:Int),vq] w (PutPost w base (putT L v q) b0 an nn cn ad nd cd):=by
 obtain ⟨qn,qd,qcn,qcd,rfl,g2,g3,g4,g5⟩:=hq.ex;have hS0:PutS w (((w.alloc (.cells #[.slice a n c,.bool b0,.slice an nn cn,.slice ad nd cd] 53)).alloc (.cells #[.bool (ratL q).neg,.slice qn (ratL q).num.length qcn,.slice qd (ratL q).den.length qcd] 51)).alloc (.cells #[.slice none 0 0,.bool false,.slice none 0 0,.slice none 0 0] 53))
   base (.slice a n c) L (.bool b0) (.slice an nn cn) (.slice ad nd cd) (.bool (ratL q).neg) (.slice qn (ratL q).num.length qcn) (.slice qd (ratL q).den.length qcd) q:=by
  have k1:=Box4.alloc w (.slice a n c) (.bool b0) (.slice an nn cn) (.slice ad nd cd) 53;have m1:=NoInt.alloc w #[.slice a n c,.bool b0,.slice an nn cn,.slice ad nd cd] 53 (by simp);have b1:=blA w (.cells #[.slice a n c,.bool b0,.slice an nn cn,.slice ad nd cd] 53);have s1:(w.alloc (.cells #[.slice a n c,.bool b0,.slice an nn cn,.slice ad nd cd] 53)).heap.size=w.heap.size+1:=by simp
  generalize w.alloc (.cells #[.slice a n c,.bool b0,.slice an nn cn,.slice ad nd cd] 53)=W1 at *;have k2:=Box3.alloc W1 (.bool (ratL q).neg) (.slice qn (ratL q).num.length qcn) (.slice qd (ratL q).den.length qcd) 51;have b2:=blA W1 (.cells #[.bool (ratL q).neg,.slice qn (ratL q).num.length qcn,.slice qd (ratL q).den.length qcd] 51);have s2:(W1.alloc (.cells #[.bool (ratL q).neg,.slice qn (ratL q).num.length qcn,.slice qd (ratL q).den.length qcd] 51)).heap.size=w.heap.size+1+1:=by simp;omega
  generalize W1.alloc (.cells #[.bool (ratL q).neg,.slice qn (ratL q).num.length qcn,.slice qd (ratL q).den.length qcd] 51)=W2 at *;have k3:=Box4.alloc W2 (.slice none 0 0) (.bool false) (.slice none 0 0) (.slice none 0 0) 53;have m3:=NoInt.alloc W2 #[.slice none 0 0,.bool false,.slice none 0 0,.slice none 0 0] 53 (by simp);have b3:=blA W2 (.cells #[.slice none 0 0,.bool false,.slice none 0 0,.slice none 0 0] 53);generalize W2.alloc (.cells #[.slice none 0 0,.bool false,.slice none 0 0,.slice none 0 0] 53)=W3 at *;rw [s1] at k2;rw [s2] at k3 m3;have b23:=b2.trans (b3.mono b2.size);have b13:=b1.trans (b23.mono b1.size)
  refine ⟨k1.below b23,k2.below b3,k3,m1.below b23 k1.lt,m3,hown.below termK b13,⟨fun e=>?_,fun e=>?_⟩,RatC.below ⟨qn,qd,qcn,qcd,rfl,rfl,rfl,g2,g3,g4,g5⟩ b13,b13.mono hbase⟩
  ·have:=(hown.lt e).2;omega
  ·have:=(hown.lt e).2;omega
 obtain ⟨HS0,HN,HQl⟩:=hd3 hS0 hn hql;generalize hLp:putT L v q=L';have HLp:=hid hLp;clear hS0 hown hq g4 g5 hLp
 go_enter Tryz.func135,Tryz.ntmps135
 go_upto_region 1 with fail
 generalize ((w.alloc (.cells #[.slice a n c,.bool b0,.slice an nn cn,.slice ad nd cd] 53)).alloc (.cells #[.bool (ratL q).neg,.slice qn (ratL q).num.length qcn,.slice qd (ratL q).den.length qcd] 51)).alloc (.cells #[.slice none 0 0,.bool false,.slice none 0 0,.slice none 0 0] 53)=W at *;obtain ⟨y0,y1,y2,yf,ylt⟩:=HS0.out.cb;have hle:=HQl.out.num;have HSg:=hid (rSign HS0.out.rc.val (by omega))
 go_wp2_with fail
 refine HSg.out.mono ?_
 rintro e w1 ⟨rfl,hb1⟩;have hb01:base<=W.heap.size:=Nat.le_trans hbase HS0.out.bl.size;have HS1:=hid (HS0.out.below hb1 hb01);clear hb1 HSg HS0 y0 y1 y2 yf ylt
 by_cases hz:q=0
 ·have hs:signZ (ratL q).neg (lval (ratL q).num)=0:=sign_zero.2 hz;rw [hs];obtain rfl:L'=L:=by rw [<- HLp.out];unfold putT;rw [if_pos hz]
  have HP:=hid HS1.out.done;obtain ⟨x0,x1,x2,x3,xf,xlt⟩:=HP.out.fb;obtain ⟨r0,r1,r2,r3,rf,rlt⟩:=HP.out.rb;clear hz hs;go_wp2;exact bodyPost_ret (v:=.agg #[.slice a n c,.bool b0,.slice an nn cn,.slice ad nd cd]) (by simp [results,Tryz.results135,go_sem,r0,r1,r2,r3]) rfl (HP.out.post HN.out hbase)
 ·have hs:(signZ (ratL q).neg (lval (ratL q).num) != 0)=true:=by rw [bne_iff_ne];exact fun e=>hz (sign_zero.1 e)
  obtain rfl:L'=L++[(v,q)]:=by rw [<- HLp.out];unfold putT;rw [if_neg hz]
  have HCn:Hid (∀ W',Below w1.heap.size w1 W'->Calls Tryz.prog 121 #[.agg #[.bool (ratL q).neg,.slice qn (ratL q).num.length qcn,.slice qd (ratL q).den.length qcd]] W' (RetR W' (ratL q))):=fun W' hb=>by
   have h:=rCanon (HS1.out.rc.val.below hb) (by have:=HQl.out.num;omega) (by have:=HQl.out.den;omega);rw [canonL_ratL,ratOf_ratL] at h;exact h
  have hlt1:base<=w1.heap.size:=Nat.le_trans hbase HS1.out.bl.size;clear hz hle
  go_upto_region 2 with fail
  clear hs
  refine wp_region_slots_tail 7 (by kernel_rfl) (by kernel_rfl) (by kernel_rfl) (by kernel_rfl) (by decide) (From w1.heap.size w1) (fun w w'=>Below w.heap.size w w') (GQ [.val (.pointer (some ⟨w.heap.size,0,none⟩)),.val (.slice a n c),.val (.int .i64 (v:Int)),.val (.agg #[.bool (ratL q).neg,.slice qn (ratL q).num.length qcn,.slice qd (ratL q).den.length qcd]),.rat q,.trm v q,.one v q]) (fun i v w w' h hb=>GQ_below h hb) (From.start (Nat.le_refl _)) ?_ ?_
  ·intro ops;simp only [List.take_succ_cons,List.take_zero,Shows]
   refine ⟨?v0,?v1,?v2,?v3,?_,?_,?_,trivial⟩
   all_goals (intro g W hR hL;have hB:=hR.base;have HS2:=hid (HS1.out.below hR.be hlt1);obtain ⟨x0,x1,x2,x3,xf,xlt⟩:=HS2.out.fb;obtain ⟨y0,y1,y2,yf,ylt⟩:=HS2.out.cb;simp only [Laid,Region.binds,forall_const,Bool.false_eq_true,false_implies,GQ,List.getElem?_cons_zero,List.getElem?_cons_succ] at hL;simp [fillFrom,Act.put])
   case v0|v1|v2|v3=>
    try simp only [hL]
    clear hL;have HR:=hid hR;clear hR;go_wp2;exact ⟨_,rfl,HR.out,Below.refl _ _,rfl⟩
   ·try simp only [hL]
    clear hL;have HR:=hid hR;clear hR;have HCt:=hid (HCn.out W HR.out.be)
    go_wp2_with fail
    refine HCt.out.mono ?_
    rintro e w1 ⟨v1,rfl,kv,kb⟩;obtain ⟨KV,KB⟩:=hd2 kv kb;clear kv kb HCt;go_wp2;exact ⟨_,rfl,⟨Nat.le_trans HR.out.base KB.out.size,HR.out.be.trans (KB.out.mono HR.out.base)⟩,KB.out,KV.out⟩
   ·generalize g 2=y2 at hL ⊢;generalize g 4=y4 at hL ⊢;obtain ⟨rfl,H4,_⟩:=hL;obtain ⟨K4,HR⟩:=hd2 H4 hR;clear hR H4;obtain ⟨an',ad',cn',cd',rfl,l1,l2,u1,u2⟩:=K4.out.ex;have HRC:=hid (show RatC W _ _ _ _ from ⟨an',ad',cn',cd',rfl,rfl,rfl,l1,l2,u1,u2⟩);clear u1 u2 K4;go_wp2;exact ⟨_,rfl,HR.out,Below.refl _ _,_,_,_,rfl,HRC.out⟩
   ·generalize g 5=y5 at hL ⊢;obtain ⟨H5,_⟩:=hL;obtain ⟨K5,HR⟩:=hd2 H5 hR;clear hR H5;obtain ⟨r1,r2,r3,rfl,hrc⟩:=K5.out;obtain ⟨HOne,HBa⟩:=hd2 (One4.alloc termK (show TermP W _ r1 r2 r3 (v,q) from ⟨rfl,hrc⟩) 84) ((Below.refl W.heap.size W).alloc (Nat.le_refl _) (.cells #[.int .i64 ((v:Nat):Int),r1,r2,r3] 84));obtain ⟨an',ad',cn',cd',rfl,rfl,rfl,l1,l2,u1,u2⟩:=hrc.ex;clear hrc u1 u2 K5;go_wp2;exact ⟨⟨Nat.le_trans HR.out.base HBa.out.size,HR.out.be.trans (HBa.out.mono HR.out.base)⟩,HBa.out,HOne.out⟩
  ·intro ops g W hR hL;have hB:=hR.base;have J1:=hL.1.1.1.1.1.2;have J6:=hL.2;simp only [GQ,List.getElem?_cons_zero,List.getElem?_cons_succ] at J1 J6;have HS2:=hid (HS1.out.below hR.be hlt1);obtain ⟨x0,x1,x2,x3,xf,xlt⟩:=HS2.out.fb;obtain ⟨y0,y1,y2,yf,ylt⟩:=HS2.out.cb;clear hL;simp only [List.take_succ_cons,List.take_zero,List.drop_succ_cons,List.drop_zero];simp [fillFrom,Act.put];generalize g 1=y1 at J1 ⊢;obtain rfl:=J1;generalize g 6=y6 at J6 ⊢;have HR:=hid hR;clear hR;have HJ:=hid J6;clear J6 x0 x1 x2 x3 xf xlt y0 y1 y2 yf ylt
   go_upto_region 3 with (at_builtin;refine wpList_app4 (T:=84) termK (.int .i64 0) (.bool false) (.slice none 0 0) (.slice none 0 0) 64 (by intro u hu;simp at hu;rcases hu with rfl | rfl | rfl <;> rfl) rfl (.tmp 11) (.tmp 16) 47 rfl base Tryz.underlying47 (by kernel_rfl) (by omega) (.slice a n c) n L HN.out rfl HS2.out.own y6 (v,q) HJ.out rfl (by omega) (Nat.le_trans hbase HS2.out.bl.size) ?_;intro b3 k3 w3 hown hk3 hg hbe hnx;have HP:=hid (HS2.out.app hown hg hbe hnx);obtain ⟨x0,x1,x2,x3,xf,xlt⟩:=HP.out.fb;clear hown hg hbe hnx)
   have HQ:=hid (HP.out.set (by simp) hbase);generalize w3.setCell ⟨w.heap.size,0,none⟩ (.slice b3 (n+1) k3)=w4 at *;clear HP x0 x1 x2 x3 xf xlt;obtain ⟨x0,x1,x2,x3,xf,xlt⟩:=HQ.out.fb;obtain ⟨r0,r1,r2,r3,rf,rlt⟩:=HQ.out.rb;go_wp2;exact bodyPost_ret (v:=.agg #[.slice b3 (n+1) k3,.bool b0,.slice an nn cn,.slice ad nd cd]) (by simp [results,Tryz.results135,go_sem,r0,r1,r2,r3]) rfl (HQ.out.post (by rw [List.length_append,HN.out];rfl) hbase)
end Go.Proofs.YtfgmmghmmfmdgaaGreat
