/-
  Contracts: Base, BaseB.
-/
import Derived.Test.YtfgmmghmmfmdgaaGreatRows
import Derived.WalkKit
import Derived.WalkSmall
import Derived.WalkSpells
import Derived.Lib.Hide
import Derived.Deep.Draws
import Derived.Deep.QuietTactic
import Derived.BigQuiet
import Derived.Deep.LoopGhost
import Derived.Deep.DeepCutAuto
import Derived.WalkLawsBesides
import Derived.Test.YtfgmmghmmfmdgaaGreatO0
set_option linter.all false
set_option maxRecDepth 100000
set_option maxHeartbeats 3200000
namespace Go.Proofs.YtfgmmghmmfmdgaaGreat
open Go.RowKit
open Go.Lib (hid)
variable {w w':World} {F F':Nat->Prop} {a:Option Addr} {l:List Int} {k base E:Nat} {b:Int} {v:Value} {xs:List Value} {L:List (List Int)}
structure zah (w:World) (F:Nat->Prop) (a:Option Addr) (l:List Int):Prop where
 wf:∀x∈l,-9223372036854775808<=x/\x<=9223372036854775807
 len:l.length<=9223372036854775807
 row:l=[] ∨ ∃b off,a=some ⟨b,off,none⟩/\F b/\b<w.heap.size/\∀j d,l[j]? =some d->w.cell? ⟨b,off+j,none⟩=some (.int .i64 d)
theorem zah.nil(w:World)(F:Nat->Prop)(a:Option Addr):zah w F a []:=⟨Yc,Yc,.inl rfl⟩
theorem zah.frame(h:zah w F a l)(hs:w.heap.size<=w'.heap.size)
 (hf:∀b,F b->b<w.heap.size->w'.heap[b]? =w.heap[b]?):zah w' F a l:=by
 refine⟨h.wf,h.len,h.row.imp id ?_⟩
 rintro⟨b,off,rfl,hF,hb,hc⟩;exact⟨b,off,rfl,hF,Ya,fun j d hj=>(ZS (w:=w) (hf b hF hb)).trans (hc j d hj)⟩
theorem zah.mono(h:zah w F a l)(hF:∀b,b<w.heap.size->F b->F' b):zah w F' a l:=by
 refine⟨h.wf,h.len,h.row.imp id ?_⟩
 rintro⟨b,off,rfl,hb,hs,hc⟩;exact⟨b,off,rfl,hF b hs hb,hs,hc⟩
def Any:Nat->Prop:=fun _=>True
theorem zah.below(h:zah w F a l)(hb:Below w.heap.size w w'):zah w' F a l:=
 h.frame hb.size (fun b _ hs=>hb.block b hs)
theorem zah.pick(h:zah w F a l)(hk:k<l.length):
  ∃b off d,a=some ⟨b,off,none⟩/\w.cell? ⟨b,off+k,none⟩=some (.int .i64 d)/\l[k]? =some d/\l.drop k=d::l.drop (k+1)/\ -9223372036854775808<=d/\d<=9223372036854775807:=by
 rcases h.row with rfl|⟨b,off,rfl,_,_,hc⟩
 ·simp at hk
 ·have hd:l[k]? =some l[k]:=JR;exact⟨b,off,l[k],rfl,hc k _ hd,hd,ZaR hk,h.wf _ (Z1 hk)⟩
theorem zah.pick2(h:zah w F a l)(hk:k<l.length):
  ∃b off d,a=some ⟨b,off,none⟩/\w.cell? ⟨b,off+k,none⟩=some (.int .i64 d)/\l[k]? =some d/\l.drop k=d::l.drop (k+1)/\b<w.heap.size/\F b/\ -9223372036854775808<=d/\d<=9223372036854775807:=by
 rcases h.row with rfl|⟨b,off,rfl,hF,hb,hc⟩
 ·simp at hk
 ·have hd:l[k]? =some l[k]:=JR;exact⟨b,off,l[k],rfl,hc k _ hd,hd,ZaR hk,hb,hF,h.wf _ (Z1 hk)⟩
theorem zO{p q:Addr}{u:Value}(h:p.block≠q.block):(w.setCell q u).cell? p=w.cell? p:=
 ZA _ _ _ _ (fun e=>h Ul)
theorem zah.three(h:zah w F a l)(hl:l.length=3):
  ∃b off c x y,a=some ⟨b,off,none⟩/\w.cell? ⟨b,off,none⟩=some (.int .i64 c)/\w.cell? ⟨b,off+1,none⟩=some (.int .i64 x)/\w.cell? ⟨b,off+2,none⟩=some (.int .i64 y)/\
   l[0]? =some c/\l[1]? =some x/\l[2]? =some y:=by
 rcases h.row with rfl|⟨b,off,rfl,_,_,hc⟩
 ·simp at hl
 ·have e0:l[0]? =some l[0]:=Yc;have e1:l[1]? =some l[1]:=Yc;have e2:l[2]? =some l[2]:=Yc;exact⟨b,off,_,_,_,rfl,hc 0 _ e0,hc 1 _ e1,hc 2 _ e2,e0,e1,e2⟩
theorem zpz{α:Type}{l:List α}(hk:k<=l.length)(h:¬ k<l.length):l.drop k=[]:=List.drop_of_length_le Ya
theorem zi{a b:Bool}(h:a=b):Ending.returned (.bool a)=.returned (.bool b):=by rw[h]
theorem zaD{k:IntKind}{a:Int}(h:a=b):Ending.returned (.int k a)=.returned (.int k b):=by rw[h]
theorem zjY(w:World)(n m:Nat):∃k,(w.drewN n).drewN m=w.drewN k:=⟨n+m,Yc⟩
theorem zlc{a c d:Int}(h:(a,c)=(b,d)):Ending.returned (.tuple #[.int .i64 a,.int .i64 c])=.returned (.tuple #[.int .i64 b,.int .i64 d]):=by
 cases h;rfl
theorem zah.own_cap{n:Nat}(h:w.ownsRow base E 1 v n xs){m c:Nat}(hv:v=.slice a m c):n<=c:=by
 rcases h.2 with⟨rfl,hn⟩|⟨g,cap,cur,rfl,hb,hg,hnc,hcm,hcs,htake⟩
 ·cases hv;omega
 ·cases hv;exact hnc
theorem zah.own(h:w.ownsRow base E 1 v l.length (l.map (Value.int .i64)))
 (hw:∀x∈l,-9223372036854775808<=x/\x<=9223372036854775807)(hl:l.length<=9223372036854775807):
  ∃a c,v=.slice a l.length c/\zah w (fun b=>v.ownBlock=some b) a l:=by
 rcases h.2 with⟨rfl,hn⟩|⟨g,cap,cur,rfl,hb,hg,hnc,hcm,hcs,htake⟩
 ·rw[hn];exact⟨none,0,rfl,by rw[Zy hn];exact zah.nil _ _ _⟩
 ·refine⟨_,cap,rfl,hw,hl,.inr ⟨g,0,rfl,rfl,(ZF.1 hg).1,?_⟩⟩
  intro j d hj;have:=h.cells (g:=g) rfl j (.int .i64 d) (by simp[hj])
  simpa [Zaq]using this
def zi7(w:World)(v v':Value):Prop:=v'.ownBlock=v.ownBlock ∨ ∃g,v'.ownBlock=some g/\w.heap.size<=g
theorem zbM{P:Program}(w:World)(base:Nat)(t ty e:TypeId)(i:TypeInfo)(z:Value)(size bytes:Nat)(ht:P.underlying t=some (.slice e))(hi:P.info? e=some i)(hz:i.zero=some z)
 (hsize:i.size=size)(hby:i.bytes=bytes)(hzs:z.cells.size=size)(hsz:0<size)
 (v:Value)(n:Nat)(xs:List Value)(hown:w.ownsRow base e size v n xs)
 (a:Addr)(m c:Nat)(news:List Value)(hl:news.length=m*size)(hnews:∀j u,news[j]? =some u->w.cell? (a.add j)=some u)(h1:∀u∈news,u.oneCell'=true)
 (hm:0<m)(h63:n+m<=maxLen)(hbytes:(n+m)*bytes<=140737488355328)(hbase:base<=w.heap.size):
  ∃v' w',(Builtin.append_ #[t,t] ty #[v,.slice (some a) m c]).run P w=.ok v' w'/\w'.ownsRow base e size v' (n+m) (xs++news)/\w.grownBy w' v.ownBlock/\zi7 w v v':=by
 obtain⟨v',w',hr,h2,h3,_⟩:=run_append_own (P:=P) w base t ty e i z size bytes ht hi hz hsize hby hzs hsz v n xs hown a m c news hl hnews h1 h63 hbytes hbase
 refine⟨v',w',hr,h2,h3,?_⟩
 subst hsize;subst hby;have hsmall:n+m<=9223372036854775807:=XG
 rcases hown.2 with⟨rfl,rfl⟩|⟨g,cap,cur,rfl,hbg,hg,hnc,hcm,hcs,htake⟩
 ·have hr':=run_append_nil (P:=P) w t ty e i z ht hi hz a m c news hl hnews hm Ya XF;rw[hr']at hr;cases hr;exact .inr ⟨_,rfl,Za _⟩
 ·by_cases hroom:n+m<=cap
  ·have hfit:n*i.size+news.length<=cur.size:=YN;have hr':=run_append_room (P:=P) w t ty e i ht hi g n cap cur hg a m c news hl hnews h1 hroom hfit;rw[hr']at hr;cases hr;exact .inl rfl
  ·have holds:∀j u,xs[j]? =some u->w.cell? ((⟨g,0,none⟩:Addr).add j)=some u:=hown.cells (g:=g) rfl;have hr':=run_append_grow (P:=P) w t ty e i z ht hi hz ⟨g,0,none⟩ n cap xs hown.1 holds a m c news hl hnews Ya Ya (growslice_fits Ya hbytes);rw[hr']at hr;cases hr;exact .inr ⟨_,rfl,Za _⟩
theorem zao{P:Program}{ops:Array Oper}{rest:List Oper}{o:Oper}{a:Act}{Q:Exit->Act->World->Prop}(hgd:o.guard=none)(s x:Operand)(t:TypeId)
 (ho:o.op=.call {callee:=.builtin .append,args:=#[s,x],argTypes:=#[t,t]})
 (base:Nat)(e:TypeId)(z:Value)(bytes:Nat)(ht:P.underlying t=some (.slice e))(hinfo:(P.info? e).map (fun i=>(i.zero,i.size,i.bytes))=some (some z,1,bytes))(hz1:z.cells.size=1)
 (v:Value)(n:Nat)(xs:List Value)(hs:a.eval s=v)(hown:w.ownsRow base e 1 v n xs)(u:Value)(hu:u.oneCell'=true)
 (hx:a.eval x=.slice (some ⟨w.heap.size,0,none⟩) 1 1)
 (hbytes:(n+1)*bytes<=140737488355328)(h63:n+1<=maxLen)(hbase:base<=w.heap.size)
 (h:∀v' w',w'.ownsRow base e 1 v' (n+1) (xs++[u])->w.grownBy w' v.ownBlock->zi7 w v v'->wpList P ops Q rest (a.put o.dst v') w'):
  wpList P ops Q (o::rest) a (w.alloc (.cells #[u] e)):=by
 refine wpList_plain hgd fun K hK=>?_
 obtain⟨i,hi,hz,hsize,hby⟩:=info_parts hinfo;obtain⟨v',w',hr,h2,h3,h4⟩:=zbM (P:=P) (w.alloc (.cells #[u] e)) base t o.type e i z 1 bytes ht hi hz hsize hby hz1 Ya v n xs (hown.alloc _) ⟨w.heap.size,0,none⟩ 1 1 [u] rfl
  (by intro j y hj;match j,hj with|0,hj=>simp at hj;subst hj;simp[Addr.add]) (by intro y hy;simp at hy;subst hy;exact hu) Ya h63 hbytes Yi
 unfold Oper.wp execOp;simp only[ho,resolve,invoke,builtin,Sem.run_bind,Sem.run_pure,Result.andThen_ok,List.map_toArray,Zbf,List.map_nil,hs,hx,hr]
 refine hK _ _ (h v' w' h2 ?_ ?_)
 ·have h0:=World.grownBy_alloc w (.cells #[u] e) v.ownBlock;exact⟨h3.os.trans h0.os,h3.tape.trans h0.tape,h3.output.trans h0.output,Zi h0.size h3.size,fun k hk hne=>(h3.block k Yi hne).trans (h0.block k hk hne)⟩
 ·exact h4.imp id (fun⟨g,hg,hle⟩=>⟨g,hg,by simp at hle;omega⟩)
theorem zah.grown{row:Option Nat}(h:zah w F a l)(hg:w.grownBy w' row)(hF:∀b,F b->row≠some b):zah w' F a l:=
 h.frame hg.size (fun b hb hs=>hg.block b hs (fun e=>hF b hb e.symm))
structure zbd (w:World) (F:Nat->Prop) (a:Option Addr) (L:List (List Int)):Prop where
 len:L.length<=9223372036854775807
 row:L=[] ∨ ∃b off,a=some ⟨b,off,none⟩/\F b/\b<w.heap.size/\∀j l,L[j]? =some l->∃aj cj,w.cell? ⟨b,off+j,none⟩=some (.slice aj l.length cj)/\zah w F aj l/\l.length<=cj
theorem zbd.nil(w:World)(F:Nat->Prop)(a:Option Addr):zbd w F a []:=⟨Yc,.inl rfl⟩
theorem zbd.frame(h:zbd w F a L)(hs:w.heap.size<=w'.heap.size)
 (hf:∀b,F b->b<w.heap.size->w'.heap[b]? =w.heap[b]?):zbd w' F a L:=by
 refine⟨h.len,h.row.imp id ?_⟩
 rintro⟨b,off,rfl,hF,hb,hc⟩
 refine⟨b,off,rfl,hF,Ya,fun j l hj=>?_⟩
 obtain⟨aj,cj,h1,h2,h3⟩:=hc j l hj;exact⟨aj,cj,(ZS (w:=w) (hf b hF hb)).trans h1,h2.frame hs hf,h3⟩
theorem zbd.below(h:zbd w F a L)(hb:Below w.heap.size w w'):zbd w' F a L:=
 h.frame hb.size (fun b _ hs=>hb.block b hs)
theorem zbd.mono(h:zbd w F a L)(hF:∀b,b<w.heap.size->F b->F' b):zbd w F' a L:=by
 refine⟨h.len,h.row.imp id ?_⟩
 rintro⟨b,off,rfl,hb,hs,hc⟩
 refine⟨b,off,rfl,hF b hs hb,hs,fun j l hj=>?_⟩
 obtain⟨aj,cj,h1,h2,h3⟩:=hc j l hj;exact⟨aj,cj,h1,h2.mono hF,h3⟩
theorem zbd.pickc(h:zbd w F a L)(hk:k<L.length):
  ∃b off l aj cj,a=some ⟨b,off,none⟩/\w.cell? ⟨b,off+k,none⟩=some (.slice aj l.length cj)/\L[k]? =some l/\l.length<=cj/\zah w F aj l/\b<w.heap.size/\F b:=by
 rcases h.row with rfl|⟨b,off,rfl,hF,hb,hc⟩
 ·simp at hk
 ·have hd:L[k]? =some L[k]:=JR;obtain⟨aj,cj,h1,h2,h3⟩:=hc k _ hd;exact⟨b,off,L[k],aj,cj,rfl,h1,hd,h3,h2,hb,hF⟩
structure zcU (w:World) (base E:Nat) (v:Value) (xs:List Value) (L:List (List Int)):Prop where
 own:w.ownsRow base E 1 v L.length xs
 elem:∀(j:Nat) (l:List Int),L[j]? =some l->∃aj cj,xs[j]? =some (Value.slice aj l.length cj)/\zah w (fun b=>base<=b/\v.ownBlock≠some b) aj l/\l.length<=cj
theorem zcU.nil(w:World)(base E:Nat):zcU w base E (.slice none 0 0) [] []:=⟨Zaw _ _ _ _,Yc⟩
theorem zcU.frame(h:zcU w base E v xs L)(hb:Below w.heap.size w w'):zcU w' base E v xs L:=
 ⟨h.own.kept (row:=none) ⟨hb.os,hb.tape,hb.output,hb.size,fun k hk _=>hb.block k hk⟩ Xh,
  fun j l hj=>let ⟨aj,cj,h1,h2,h3⟩:=h.elem j l hj;⟨aj,cj,h1,h2.below hb,h3⟩⟩
theorem zcU.app{v':Value}(h:zcU w base E v xs L){G:Nat->Prop}{aj:Option Addr}{cj:Nat}
 (hI:zah w G aj l)(hcj:l.length<=cj)(hG:∀b,G b->base<=b/\v.ownBlock≠some b)(ho:w'.ownsRow base E 1 v' (L.length+1) (xs++[.slice aj l.length cj]))(hg:w.grownBy w' v.ownBlock)(hn:zi7 w v v'):
  zcU w' base E v' (xs++[.slice aj l.length cj]) (L++[l]):=by
 have key:∀{a m},zah w (fun b=>base<=b/\v.ownBlock≠some b) a m->zah w' (fun b=>base<=b/\v'.ownBlock≠some b) a m:=by
  intro a m hm;have h1:=hm.mono (F':=fun b=>base<=b/\v.ownBlock≠some b/\b<w.heap.size) (fun b hb ⟨x,y⟩=>⟨x,y,hb⟩)
  refine(h1.grown hg (fun b hb=>hb.2.1)).mono (fun b _ ⟨x,y,z⟩=>⟨x,?_⟩)
  rcases hn with e|⟨g,e,hge⟩
  ·rw[e];exact y
  ·rw[e];intro e2;cases e2;omega
 have hlen:xs.length=L.length:=by simpa using h.own.1
 refine⟨Y8,fun j m hj=>?_⟩
 by_cases hlt:j<L.length
 ·rw[Zz hlt]at hj;obtain⟨a2,c2,h1,h2,h3⟩:=h.elem j m hj;exact⟨a2,c2,by rw[Zz Ya];exact h1,key h2,h3⟩
 ·rw[ZI Ya]at hj;have hj0:j-L.length=0:=by
   have:=(Zr.1 hj).1;simp at this;omega
  rw[hj0]at hj;simp at hj;subst hj
  refine⟨aj,cj,?_,key (hI.mono (fun b _ hb=>hG b hb)),hcj⟩
  rw[ZI Ya,show j-xs.length=0 from Ya];rfl
theorem zcU.intss(h:zcU w base E v xs L)(hl:L.length<=9223372036854775807):
  ∃a c,v=.slice a L.length c/\zbd w (fun b=>base<=b) a L:=by
 rcases h.own.2 with⟨rfl,hn⟩|⟨g,cap,cur,rfl,hb,hg,hnc,hcm,hcs,htake⟩
 ·rw[hn];exact⟨none,0,rfl,by rw[Zy hn];exact zbd.nil _ _ _⟩
 ·refine⟨_,cap,rfl,hl,.inr ⟨g,0,rfl,hb,(ZF.1 hg).1,fun j l hj=>?_⟩⟩
  obtain⟨aj,cj,h1,h2,h3⟩:=h.elem j l hj;have:=h.own.cells (g:=g) rfl j _ h1;exact⟨aj,cj,by simpa [Zaq]using this,h2.mono (fun b _ hb=>hb.1),h3⟩
theorem Tryz.info3:(Tryz.prog.info? 3).map (fun i=>(i.zero,i.size,i.bytes))=some (some (.int .i64 0),1,8):=Yb
theorem Tryz.info22:(Tryz.prog.info? 22).map (fun i=>(i.zero,i.size,i.bytes))=some (some (.slice none 0 0),1,24):=Yb
