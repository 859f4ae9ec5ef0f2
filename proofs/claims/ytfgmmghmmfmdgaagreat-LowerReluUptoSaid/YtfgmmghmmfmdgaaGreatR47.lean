/-
  Contracts of the functions that the statement reaches: SlotsG.
-/
import Derived.Test.YtfgmmghmmfmdgaaGreatR15
set_option linter.all false
set_option maxRecDepth 100000
set_option maxHeartbeats 3200000
namespace Go.Proofs.YtfgmmghmmfmdgaaGreat
open Go.RowKit
open Go.Lib (hid)
section
variable {P:Program} {Q:Exit->Act->World->Prop}
theorem wp_region_slots_tail_g {l:List Oper} (n:Nat) {id:Nat} {a:Act} {w:World} (hm:P.follows .mixedOrders=true) (hap:aparts (l.take n)=true) (hbk:backs l 0=true) (hus:((List.range (l.length - n)).all fun j=>usedUpto l.toArray (n+j))=true) (hn:n < l.length) (R:World->Prop) (S:World->World->Prop) (G:Nat->Value->World->Prop)
  (hG:∀ i v w w',G i v w->S w w'->G i v w') (h0:R w.drew) (hshow:∀ ops:Array Oper,(∀ j:Nat,(ops[j]?).bind (fun o:Oper=>o.dst)=(l[j]?).bind (fun o:Oper=>o.dst))->Shows P ops Q a (l.take n) R S G (l.take n) 0)
  (hlast:∀ ops (g:Nat->Value) (w':World),R w'->LaidAll G g w' n->wpList P ops Q (l.drop n) (fillFrom (l.take n) 0 g a) w'):(Code.region id l.toArray true).wp P Q a w:=by
 have hsz:l.toArray.size=l.length:=by simp
 have htl:(l.take n).length=n:=by rw [List.length_take];omega
 have hup:∀ t,n<=t->t < l.length->usedUpto l.toArray t=true:=by
  intro t h1 h2;have:=List.all_eq_true.1 hus (t - n) (List.mem_range.2 (by omega));rw [show n+(t - n)=t by omega] at this;exact this
 refine wp_region_inv hm (fun listed a' w'=>listed.size=l.length/\(∀ i o,l.toArray[i]? =some o->listed.getD i false=true->∀ e ∈ o.after,Region.binds .any e=true->listed.getD e.on false=true)/\
  (((∀ i,n<=i->listed.getD i false=false)/\∃ g,a'=fillFrom (l.take n) 0 g a/\R w'/\∀ i,i < n->listed.getD i false=true->G i (g i) w') ∨
   (∃ m,n < m/\m<=l.length/\(∀ i,i < m->listed.getD i false=true)/\(∀ i,m<=i->listed.getD i false=false)/\wpList P l.toArray Q (l.drop m) a' w'))) ?_ ?_ ?_
 ·have hrep:∀ i,(Array.replicate l.toArray.size false).getD i false=false:=by
   intro i;simp only [Array.getD_eq_getD_getElem?,Array.getElem?_replicate]
   split <;> rfl
  refine ⟨by simp,?_,.inl ⟨fun i _=>hrep i,slotsOf (l.take n) a,(fillFrom_self _ _ _ (fun i _=>by rw [Nat.zero_add])).symm,h0,?_⟩⟩
  ·intro i o _ hi;rw [hrep] at hi;cases hi
  ·intro i _ hi;rw [hrep] at hi;cases hi
 ·rintro listed a' w' ⟨hs,hc,⟨hl,_⟩ | ⟨m,h1,h2,_,h4,hq⟩⟩ hr
  ·have:=all_listed (by rw [hs,hsz]) hbk hr n (by rw [hsz];exact hn);rw [hl n (Nat.le_refl _)] at this;cases this
  ·have hml:m=l.length:=by
    rcases Nat.lt_or_ge m l.length with h | h
    ·have:=all_listed (by rw [hs,hsz]) hbk hr m (by rw [hsz];exact h);rw [h4 m (Nat.le_refl _)] at this;cases this
    ·omega
   rw [hml,List.drop_length] at hq;exact hq
 ·rintro listed a' w' i ⟨hs,hc,hI⟩ hi;obtain ⟨hu,o,ho,hdep⟩:=mem_ready.1 hi;have hlt:i < l.length:=by have:=(Array.getElem?_eq_some_iff.1 ho).1;rw [hsz] at this;exact this
  have hset:(listed.setIfInBounds i true).getD i false=true:=by simp [Array.getD_eq_getD_getElem?,Array.getElem?_setIfInBounds,hs,hlt]
  have hclo:∀ k o',l.toArray[k]? =some o'->(listed.setIfInBounds i true).getD k false=true->∀ e ∈ o'.after,Region.binds .any e=true->(listed.setIfInBounds i true).getD e.on false=true:=by
   have hupl:∀ j,listed.getD j false=true->(listed.setIfInBounds i true).getD j false=true:=by
    intro j hj
    by_cases hij:i=j
    ·subst hij;exact hset
    ·rw [getD_set_ne _ hij];exact hj
   intro k o' ho' hk e he hb
   by_cases hik:i=k
   ·subst hik;rw [ho] at ho';cases ho';exact hupl _ (hdep e he hb)
   ·rw [getD_set_ne _ hik] at hk;exact hupl _ (hc k o' ho' hk e he hb)
  rcases hI with ⟨hl,g,rfl,hR,hall⟩ | ⟨m,h1,h2,h3,h4,hq⟩
  ·by_cases hil:n<=i
   ·have hA:=upto_ready (by rw [hsz];exact hlt) (hup i hil hlt) hc hi;have hin:i=n:=by
     rcases Nat.lt_or_ge n i with h | h
     ·have:=hA n h;rw [hl n (Nat.le_refl _)] at this;cases this
     ·omega
    subst hin;have hs1:=hlast l.toArray g w' hR (LaidAll.of _ fun j hj=>hall j hj (hA j hj));have ho':l[i]? =some o:=by simpa using ho
    have hd:l.drop i=o::l.drop (i+1):=by
     have hx:l[i]=o:=by rw [List.getElem?_eq_getElem hlt] at ho';exact Option.some.inj ho'
     rw [List.drop_eq_getElem_cons hlt,hx]
    rw [hd] at hs1
    refine wpOp_mono ?_ (wpOp_of_cons ho hs1)
    intro a2 w2 hq
    refine ⟨by simp [hs],hclo,.inr ⟨i+1,by omega,by omega,fun j hj=>?_,fun j hj=>?_,hq⟩⟩
    ·by_cases hij:i=j
     ·subst hij;exact hset
     ·rw [getD_set_ne _ hij];exact hA j (by omega)
    ·rw [getD_set_ne _ (by omega)];exact hl j (by omega)
   ·have hil':i < n:=by omega
    have ho':(l.take n)[i]? =some o:=by
     rw [List.getElem?_take,if_pos hil'];simpa using ho
    have hL:Laid G g w' o.after.toList:=Laid.of _ fun e he hb=>hall _ (by
     have:=backs_at _ _ hbk i o (by simpa using ho) e (by simpa using he) hb;omega) (hdep e (by simpa using he) hb)
    have hs1:=(hshow l.toArray (fun j=>by simp)).at _ _ i o ho' g w' hR hL;rw [Nat.zero_add] at hs1
    refine wpOp_mono ?_ (wpOp_of_list ho hs1)
    rintro a2 w2 ⟨v,rfl,hR2,hS2,hG2⟩
    refine ⟨by simp [hs],hclo,.inl ⟨fun j hj=>by rw [getD_set_ne _ (by omega)];exact hl j hj,upd g i v,?_,hR2,fun j hjl hj=>?_⟩⟩
    ·have:=fillFrom_upd (g:=g) (v:=v) (l.take n) 0 i a hap (by rw [htl];exact hil');rw [Nat.zero_add] at this;rw [<- this];simp only [ho',Option.bind_some]
    ·by_cases hij:j=i
     ·subst hij;unfold upd;rw [if_pos rfl];exact hG2
     ·unfold upd;rw [if_neg hij]
      refine hG _ _ _ _ (hall j hjl ?_) hS2
      rw [getD_set_ne _ (Ne.symm hij)] at hj;exact hj
  ·have hmi:m<=i:=by
    rcases Nat.lt_or_ge i m with h | h
    ·have h5:=h3 i h;rw [Array.getD_eq_getD_getElem?] at h5 hu
     cases hx:listed[i]? with
     | none=>rw [hx] at h5;cases h5
     | some b=>rw [hx] at h5 hu;simp at h5 hu;rw [h5] at hu;cases hu
    ·exact h
   have hA:=upto_ready (by rw [hsz];exact hlt) (hup i (by omega) hlt) hc hi;have him:i=m:=by
    rcases Nat.lt_or_ge m i with h | h
    ·have:=hA m h;rw [h4 m (Nat.le_refl _)] at this;cases this
    ·omega
   subst him;have ho':l[i]? =some o:=by simpa using ho
   have hd:l.drop i=o::l.drop (i+1):=by
    have hx:l[i]=o:=by rw [List.getElem?_eq_getElem hlt] at ho';exact Option.some.inj ho'
    rw [List.drop_eq_getElem_cons hlt,hx]
   rw [hd] at hq
   refine wpOp_mono ?_ (wpOp_of_cons ho hq)
   intro a2 w2 hq
   refine ⟨by simp [hs],hclo,.inr ⟨i+1,by omega,by omega,fun j hj=>?_,fun j hj=>?_,hq⟩⟩
   ·by_cases hij:i=j
    ·subst hij;exact hset
    ·rw [getD_set_ne _ hij];exact h3 j (by omega)
   ·rw [getD_set_ne _ (by omega)];exact h4 j (by omega)
theorem wpList_on {ops:Array Oper} {dst:Option Tmp} {op:Op} {type:TypeId} {pos:String} {after:Array Edge} {j:Nat} {b:Bool} {rest:List Oper} {a:Act} {w:World} {x:Option Tmp} (hd:(ops[j]?).bind (fun o:Oper=>o.dst)=x) (t:Tmp) (hx:x=some t) (hv:a.tmps[t]? =some (.bool b))
  (h:wpList P ops Q (({ dst,op,type,pos,after,guard:=none }:Oper)::rest) a w):wpList P ops Q (({ dst,op,type,pos,after,guard:=some (j,b) }:Oper)::rest) a w:=by
 have hw:Region.wanted ({ dst,op,type,pos,after,guard:=some (j,b) }:Oper) (yielded ops a.tmps)=true:=by
  unfold Region.wanted yielded;simp only [hd,hx,Option.bind_some,hv];simp
 have hw2:Region.wanted ({ dst,op,type,pos,after,guard:=none }:Oper) (yielded ops a.tmps)=true:=rfl;unfold wpList at h ⊢;rw [if_pos hw2] at h;rw [if_pos hw];exact h
end
end Go.Proofs.YtfgmmghmmfmdgaaGreat
