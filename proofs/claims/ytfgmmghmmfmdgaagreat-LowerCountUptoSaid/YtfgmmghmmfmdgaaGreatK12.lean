/-
  Contracts of the functions that the statement reaches: AppS.
-/
import Derived.Test.YtfgmmghmmfmdgaaGreatK1
import Derived.Deep.RegionHeld3
import Derived.Deep.RegionLaw
import Derived.OwnWalk
set_option linter.all false
set_option maxRecDepth 100000
set_option maxHeartbeats 3200000
namespace Go.Proofs.YtfgmmghmmfmdgaaGreat
open Go.RowKit
open Go.Lib (hid)
structure SrcOK (w:World) (A:Option Addr) (m size:Nat) (news:List Value):Prop where
 len:news.length=m * size
 one:∀ u ∈ news,u.oneCell'=true
 at_:0 < m->∃ b off,A=some ⟨b,off,none⟩/\b < w.heap.size/\∀ j u,news[j]? =some u->w.cell? ⟨b,off+j,none⟩=some u
theorem SrcOK.below {w w':World} {A:Option Addr} {m size:Nat} {news:List Value} (h:SrcOK w A m size news) (hb:Below w.heap.size w w'):SrcOK w' A m size news:=
 ⟨h.len,h.one,fun hm=>let ⟨b,off,e,hl,hc⟩:=h.at_ hm;⟨b,off,e,Nat.lt_of_lt_of_le hl hb.size,fun j u hj=>(hb.cell hl).trans (hc j u hj)⟩⟩
theorem run_append_src {P:Program} {w:World} {base:Nat} {t ty e:TypeId} {z:Value} {size bytes:Nat} (ht:P.underlying t=some (.slice e)) (hinfo:(P.info? e).map (fun i=>(i.zero,i.size,i.bytes))=some (some z,size,bytes)) (hz1:z.cells.size=size) (hsz:0 < size)
  {v:Value} {n:Nat} {xs:List Value} (hown:w.ownsRow base e size v n xs) {A:Option Addr} {m c:Nat} {news:List Value} (hsrc:SrcOK w A m size news)
  (hbytes:(n+m) * bytes<=140737488355328) (h63:n+m<=maxLen) (hbase:base<=w.heap.size):
  ∃ v' w',(Builtin.append_ #[t,t] ty #[v,.slice A m c]).run P w=.ok v' w'/\w'.ownsRow base e size v' (n+m) (xs++news)/\w.grownBy w' v.ownBlock/\Next w v v':=by
 obtain ⟨i,hi,hz,hsize,hby⟩:=info_parts hinfo;subst hsize;have hsmall:n+m<=9223372036854775807:=by simp only [maxLen] at h63;omega
 rcases Nat.eq_zero_or_pos m with h0 | h0
 ·subst h0;have hnil:news=[]:=List.eq_nil_of_length_eq_zero (by rw [hsrc.len];simp);subst hnil
  cases A with
  | some ad=>
   rcases hown.2 with ⟨rfl,rfl⟩ | ⟨g,cap,cur,rfl,hbg,hg,hnc,hcm,hcs,htake⟩
   ·obtain ⟨v',w',hr,h2,h3,h4⟩:=run_append_own (P:=P) w base t ty e i z i.size bytes ht hi hz rfl hby hz1 hsz _ 0 xs hown ad 0 c [] (by simp) (by intro j u hj;simp at hj) (by intro u hu;simp at hu) h63 hbytes hbase;have hv:=h4.2 ⟨rfl,rfl⟩;subst hv;exact ⟨_,w',hr,h2,h3,.inl rfl⟩
   ·obtain ⟨v',w',hr,h2,h3,_⟩:=run_append_own (P:=P) w base t ty e i z i.size bytes ht hi hz rfl hby hz1 hsz _ n xs hown ad 0 c [] (by simp) (by intro j u hj;simp at hj) (by intro u hu;simp at hu) h63 hbytes hbase;have hr':=run_append_room (P:=P) w t ty e i ht hi g n cap cur hg ad 0 c [] (by simp) (by intro j u hj;simp at hj) (by intro u hu;simp at hu) (by omega) (by rw [hcs];simp;exact Nat.mul_le_mul_right _ hnc);have hrr:=hr;rw [hr'] at hrr;cases hrr;exact ⟨_,_,hr,h2,h3,.inl rfl⟩
  | none=>
   refine ⟨v,w,?_,by simpa using hown,⟨rfl,rfl,rfl,Nat.le_refl _,fun _ _ _=>rfl⟩,.inl rfl⟩
   rcases hown.2 with ⟨rfl,rfl⟩ | ⟨g,cap,cur,rfl,_,_,hnc,_⟩
   ·simp [Builtin.append_,run_underlying ht,sizeOf,typeInfo,hi,Builtin.lenOf,Builtin.firstCells]
   ·simp [Builtin.append_,run_underlying ht,sizeOf,typeInfo,hi,Builtin.lenOf,Builtin.firstCells,hnc,storeCells]
 ·obtain ⟨b,off,rfl,_,hc⟩:=hsrc.at_ h0;exact run_append_next w base t ty e i z i.size bytes ht hi hz rfl hby hz1 hsz v n xs hown ⟨b,off,none⟩ m c news hsrc.len
   (by intro j u hj;rw [Addr.add_lit];exact hc j u hj) hsrc.one h0 h63 hbytes hbase
theorem append_tx {P:Program} {w:World} {t tx ty e:TypeId} {b:Option Addr} {n c:Nat} {x:Value} (ht:P.underlying t=some (.slice e)) (htx:P.underlying tx=some (.slice e)):
  (Builtin.append_ #[t,tx] ty #[.slice b n c,x]).run P w=(Builtin.append_ #[t,t] ty #[.slice b n c,x]).run P w:=by
 simp [Builtin.append_,run_underlying ht,run_underlying htx]
theorem wpList_append_src {P:Program} {w:World} {ops:Array Oper} {rest:List Oper} {o:Oper} {a:Act} {Q:Exit->Act->World->Prop} (hgd:o.guard=none) (s x:Operand) (t tx:TypeId)
  (ho:o.op=.call { callee:=.builtin .append,args:=#[s,x],argTypes:=#[t,tx] })
  (base:Nat) (e:TypeId) (z:Value) (size bytes:Nat) (ht:P.underlying t=some (.slice e)) (htx:P.underlying tx=some (.slice e)) (hinfo:(P.info? e).map (fun i=>(i.zero,i.size,i.bytes))=some (some z,size,bytes)) (hz1:z.cells.size=size) (hsz:0 < size)
  (v:Value) (n:Nat) (xs:List Value) (hs:a.eval s=v) (hown:w.ownsRow base e size v n xs) (A:Option Addr) (m c:Nat) (news:List Value)
  (hx:a.eval x=.slice A m c) (hsrc:SrcOK w A m size news)
  (hbytes:(n+m) * bytes<=140737488355328) (h63:n+m<=maxLen) (hbase:base<=w.heap.size)
  (h:∀ v' w',w'.ownsRow base e size v' (n+m) (xs++news)->w.grownBy w' v.ownBlock->Next w v v'->wpList P ops Q rest (a.put o.dst v') w'):wpList P ops Q (o::rest) a w:=by
 refine wpList_plain hgd fun K hK=>?_
 obtain ⟨v',w',hr,h2,h3,h4⟩:=run_append_src (ty:=o.type) (c:=c) ht hinfo hz1 hsz hown hsrc hbytes h63 hbase;have hv:∃ b k c,v=.slice b k c:=by
  rcases hown.2 with ⟨e,_⟩ | ⟨g,cap,_,e,_⟩
  ·exact ⟨_,_,_,e⟩
  ·exact ⟨_,_,_,e⟩
 obtain ⟨b,k,c',rfl⟩:=hv;rw [<- append_tx ht htx] at hr;unfold Oper.wp execOp;simp only [ho,resolve,invoke,builtin,Sem.run_bind,Sem.run_pure,Result.andThen_ok,List.map_toArray,List.map_cons,List.map_nil,hs,hx,hr];exact hK _ _ (h v' w' h2 h3 h4)
theorem own_empty {w:World} {base T size g:Nat} (h:w.heap[g]? =some (.cells #[] T (0,0))) (hb:base<=g):w.ownsRow base T size (.slice (some ⟨g,0,none⟩) 0 0) 0 []:=
 ⟨by simp,.inr ⟨g,0,#[],rfl,hb,h,Nat.le_refl _,by unfold maxLen;omega,by simp,by simp⟩⟩
end Go.Proofs.YtfgmmghmmfmdgaaGreat
