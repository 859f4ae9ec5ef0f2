/-
  Contracts of the functions that the statement reaches: LjK, LjL, LjM.
-/
import Derived.Test.YtfgmmghmmfmdgaaGreatK44
set_option linter.all false
set_option maxRecDepth 100000
set_option maxHeartbeats 3200000
namespace Go.Proofs.YtfgmmghmmfmdgaaGreat
open Go.RowKit
open Go.Lib (hid)
theorem FOwn.setZ {gG g o:Nat} {w:World} {base:Nat} {v:Value} {L:List AffQ} {u:Value} (h:FOwn gG w base v L) (hg:AllB isZF w g) (hne:g ≠ gG) (hb:g < base):FOwn gG (w.setCell ⟨g,o,none⟩ u) base v L:=by
 have hbk:∀ b,v.ownBlock=some b->b ≠ g:=fun b e=>by have:=(h.own.lt e).1;omega
 refine ⟨⟨?_,fun b e q x hx=>?_⟩,fun b e=>(h.fr b e).set hne⟩
 ·obtain ⟨xs,ho,he⟩:=h.own.ex
  refine ⟨xs,⟨ho.1,?_⟩,fun j y hj=>?_⟩
  ·rcases ho.2 with k | ⟨b,cap,cur,rfl,k1,k2,k3⟩
   ·exact .inl k
   ·exact .inr ⟨b,cap,cur,rfl,k1,(Below.heap_setCell _ _ _ _ (show b ≠ g from hbk b rfl)).trans k2,k3⟩
  ·obtain ⟨p0,p1,p2,p3,h0,h1',h2,h3,h4⟩:=he j y hj;exact ⟨p0,p1,p2,p3,h0,h1',h2,h3,h4.setZ hg⟩
 ·rw [cell_other (by exact hbk b e)] at hx;exact h.own.al b e q x hx
theorem FOwn.app {gG n:Nat} {w w':World} {base:Nat} {v v':Value} {L U:List AffQ} {f:AffQ} (h:FOwn gG w base v L) (hL:LSt w gG n U) (ho:OwnF w' base v' (L++[f])) (hg:w.grownBy w' v.ownBlock) (hn:Next w v v'):FOwn gG w' base v' (L++[f]):=by
 obtain ⟨e,_⟩:=ub_grown hL hg h.fr
 refine ⟨ho,fun b hb=>?_⟩
 rcases hn with e2 | ⟨g,e2,hge⟩
 ·exact (h.fr b (e2.symm.trans hb)).grown hL hg h.fr
 ·rw [e2] at hb;cases hb
  refine ⟨(ho.lt e2).2,by have:=hL.lt;omega,fun e3=>?_⟩
  rw [e] at e3;have:=hL.ub_ge e3;omega
theorem LwB.appX {w1:World} {gG gL n:Nat} {wr w':World} {f:Nat->Value} {U:List AffQ} {ax ax':Option Addr} {X L X':List AffQ} {v:Value} (h:LwB w1 gG gL n wr f U (.slice none 0 0) [] ax X) (ho:FOwn gG wr (gL+1) v L) (hg:wr.grownBy w' v.ownBlock) (hc:FRow gG w' ax' X'):
  LwB w1 gG gL n w' f U (.slice none 0 0) [] ax' X':=by
 have hne:some gL ≠ v.ownBlock:=fun e=>by have:=(ho.own.lt e.symm).1;omega
 have hb:w'.heap[gL]? =wr.heap[gL]? :=hg.block gL h.box.lt hne;have hcl:∀ o,w'.cell? ⟨gL,o,none⟩=wr.cell? ⟨gL,o,none⟩:=fun o=>World.cell?_of_block hb
 exact ⟨⟨fun i hi=>(hcl i).trans (h.box.c i hi),fun i=>(World.frozen?_of_block hb).trans (h.box.free i),Nat.lt_of_lt_of_le h.box.lt hg.size⟩,fun o x e=>h.ai o x (by rw [hcl] at e;exact e),h.fre.grown h.un hg ho.fr,h.un.grown hg ho.fr ho.own.al,OwnFF.nil _ _ _,hc,
  h.bl.grown hg (Nat.le_of_lt h.un.lt) (fun k hk=>by have:=(ho.own.lt hk).1;have:=h.lt;omega),h.lt⟩
theorem OwnFF.one {gG n base:Nat} {w:World} {U:List AffQ} {a:Option Addr} {y:List AffQ} {m c:Nat} (hL:LSt w gG n U) (hy:FRow gG w a y) (hm:y.length=m) (hc:m<=c) (hb:base<=w.heap.size):
  OwnFF gG (w.alloc (.cells #[.slice a m c] 28)) base (.slice (some ⟨w.heap.size,0,none⟩) 1 1) [y]:=by
 subst hm;have hal:=blA w (.cells #[.slice a y.length c] 28)
 refine ⟨⟨[.slice a y.length c],⟨rfl,.inr ⟨w.heap.size,1,#[.slice a y.length c],rfl,hb,heap_alloc_new w _,Nat.le_refl _,by decide,rfl,rfl⟩⟩,fun j z hj=>?_⟩,fun g e=>?_,fun b e=>?_⟩
 ·match j,hj with
  | 0,hj=>
   cases hj;exact ⟨a,c,rfl,hc,hy.stp hL (Stp.of hal hL.lt)⟩
 ·cases e;exact AllB.of_heap (heap_alloc_new w _) (by intro u hu;simp at hu;subst hu;rfl)
 ·cases e;exact hL.fresh hal (Nat.le_refl _) (by simp)
theorem OwnFF.at' {gG:Nat} {w:World} {base:Nat} {a:Option Addr} {n c:Nat} {Y:List (List AffQ)} (h:OwnFF gG w base (.slice a n c) Y) {j:Nat} {y:List AffQ} (hj:Y[j]? =some y):
  ∃ (bT:Nat) (af:Option Addr) (cf:Nat),a=some ⟨bT,0,none⟩/\bT < w.heap.size/\w.cell? ⟨bT,0+j,none⟩=some (.slice af y.length cf)/\FRow gG w af y:=by
 obtain ⟨xs,ho,he⟩:=h.ex;obtain ⟨af,cf,k1,k2,k3⟩:=he j y hj
 rcases ho.2 with ⟨e,hn⟩ | ⟨g,cap,cur,e,hb,hg,hnc,hcm,hcs,htake⟩
 ·rw [List.eq_nil_of_length_eq_zero hn] at hj;simp at hj
 ·cases e;have k:=ho.cells (g:=g) rfl _ _ k1;simp only [Addr.add_lit] at k;exact ⟨g,af,cf,rfl,(Array.getElem?_eq_some_iff.1 hg).1,k,k3⟩
theorem Row4.src {α:Type} {P:World->Value->Value->Value->Value->α->Prop} {p:Value->Bool} (hP:Keeps4 P p) {w:World} {a:Option Addr} {L:List α} (h:Row4 P w a L):
  ∃ news,SrcOK w a L.length 4 news/\(∀ u ∈ news,p u=true)/\∀ (j:Nat) (x:α),L[j]? =some x->∃ p0 p1 p2 p3,news[j * 4]? =some p0/\news[j * 4+1]? =some p1/\news[j * 4+2]? =some p2/\news[j * 4+3]? =some p3/\P w p0 p1 p2 p3 x:=by
 rcases h.row with rfl | ⟨b,off,rfl,hb,hc⟩
 ·exact ⟨[],⟨rfl,by simp,fun hm=>by simp at hm⟩,by simp,by simp⟩
 ·have key:∀ o,o < L.length * 4->∃ u,w.cell? ⟨b,off+o,none⟩=some u/\u.oneCell'=true/\p u=true:=by
   intro o ho;have hq:o / 4 < L.length:=by omega
   obtain ⟨p0,p1,p2,p3,h0,h1,h2,h3,h4⟩:=hc (o / 4) L[o / 4] (List.getElem?_eq_getElem hq);have hone:=hP.one h4;have hr:o=o / 4 * 4 ∨ o=o / 4 * 4+1 ∨ o=o / 4 * 4+2 ∨ o=o / 4 * 4+3:=by omega
   rcases hr with e | e | e | e
   ·exact ⟨p0,by rw [e];exact h0,hone p0 (by simp)⟩
   ·exact ⟨p1,by rw [e];exact h1,hone p1 (by simp)⟩
   ·exact ⟨p2,by rw [e];exact h2,hone p2 (by simp)⟩
   ·exact ⟨p3,by rw [e];exact h3,hone p3 (by simp)⟩
  have hat:∀ (j:Nat) (u:Value),((List.range (L.length * 4)).map fun o=>(w.cell? ⟨b,off+o,none⟩).getD undef)[j]? =some u->j < L.length * 4/\w.cell? ⟨b,off+j,none⟩=some u:=by
   intro j u hj;have hlt:=(List.getElem?_eq_some_iff.1 hj).1;simp only [List.length_map,List.length_range] at hlt;obtain ⟨u',h1,_⟩:=key j hlt;rw [List.getElem?_map,List.getElem?_range hlt] at hj;simp only [Option.map_some,h1,Option.getD_some,Option.some.injEq] at hj;exact ⟨hlt,by rw [h1,hj]⟩
  have hget:∀ (o:Nat) (u:Value),o < L.length * 4->w.cell? ⟨b,off+o,none⟩=some u->((List.range (L.length * 4)).map fun o=>(w.cell? ⟨b,off+o,none⟩).getD undef)[o]? =some u:=by
   intro o u ho hu;rw [List.getElem?_map,List.getElem?_range ho];simp [hu]
  refine ⟨(List.range (L.length * 4)).map fun o=>(w.cell? ⟨b,off+o,none⟩).getD undef,⟨by simp,fun u hu=>?_,fun _=>⟨b,off,rfl,hb,fun j u hj=>(hat j u hj).2⟩⟩,fun u hu=>?_,fun j x hj=>?_⟩
  ·obtain ⟨j,hj⟩:=List.getElem?_of_mem hu;obtain ⟨hlt,hcl⟩:=hat j u hj;obtain ⟨u',h1,h2,_⟩:=key j hlt;rw [h1] at hcl;cases hcl;exact h2
  ·obtain ⟨j,hj⟩:=List.getElem?_of_mem hu;obtain ⟨hlt,hcl⟩:=hat j u hj;obtain ⟨u',h1,_,h2⟩:=key j hlt;rw [h1] at hcl;cases hcl;exact h2
  ·have hlt:=(List.getElem?_eq_some_iff.1 hj).1;obtain ⟨p0,p1,p2,p3,h0,h1,h2,h3,h4⟩:=hc j x hj;exact ⟨p0,p1,p2,p3,hget _ _ (by omega) h0,hget _ _ (by omega) h1,hget _ _ (by omega) h2,hget _ _ (by omega) h3,h4⟩
theorem forms_gset {w:World} {gG o:Nat} {u:Value} {a:Option Addr} {L:List AffQ} (h:FormsAt w a L) (hg:GBk w gG):FormsAt (w.setCell ⟨gG,o,none⟩ u) a L:=by
 refine ⟨h.len,?_⟩
 rcases h.row with rfl | ⟨b,off,rfl,hb,hc⟩
 ·exact .inl rfl
 ·by_cases hl:L=[]
  ·exact .inl hl
  ·have hp:=List.length_pos_iff.2 hl;obtain ⟨p0,p1,p2,p3,h0,h1,_,_,_,h4⟩:=hc 0 L[0] (List.getElem?_eq_getElem hp);obtain ⟨_,_,_,_,rfl,_⟩:=h4.ex;have hf:b ≠ gG:=by
    rintro rfl;obtain ⟨⟨y,z0⟩,⟨a1,n1,c1,z1⟩,⟨a2,n2,c2,z2⟩,z3⟩:=hg;generalize off+0 * 4+1=q at h1
    match q,h1 with
    | 0,h1=>rw [z0] at h1;cases h1
    | 1,h1=>rw [z1] at h1;cases h1
    | 2,h1=>rw [z2] at h1;cases h1
    | q+3,h1=>rw [z3 (q+3) (by omega)] at h1;cases h1
   refine .inr ⟨b,off,rfl,by simpa using hb,fun j x hj=>?_⟩
   obtain ⟨p0,p1,p2,p3,h0,h1,h2,h3,h4⟩:=hc j x hj;exact ⟨p0,p1,p2,p3,(cell_other (by exact hf)).trans h0,(cell_other (by exact hf)).trans h1,(cell_other (by exact hf)).trans h2,(cell_other (by exact hf)).trans h3,h4.gset hg⟩
structure LwQ (n:Nat) (input:List Int) (S:List (List Int)) (U:List AffQ) (Y:List (List AffQ)) (D B N:Nat):Prop where
 lo:∃ (x:List Rat) (YQ:List (List Rat)),x.length=n/\LowI x input S U Y YQ
 hD:0 < D
 hB:1<=B
 b0:BdFs D B N (varsF n)
 bY:∀ y ∈ Y,BdFs D B N y
theorem LwQ.start {n N:Nat} {input:List Int} (h:(n:Int)=sizeL input) (hN:n<=N):LwQ n input [] [] [] 1 1 N:=by
 refine ⟨⟨List.replicate n 0,[],by simp,LowI.start (by simpa using h)⟩,by omega,by omega,fun f hf=>?_,by simp⟩
 obtain ⟨v,hv,rfl⟩:=List.mem_map.1 hf;have:=List.mem_range.1 hv;exact BdF.var (by omega) (by omega) (by omega)
theorem LwQ.len {n:Nat} {input:List Int} {S:List (List Int)} {U:List AffQ} {Y:List (List AffQ)} {D B N:Nat} (h:LwQ n input S U Y D B N):S.length=Y.length:=by
 obtain ⟨x,YQ,_,hl⟩:=h.lo;have:=congrArg List.length hl.ev;rw [List.length_map] at this;rw [hl.len, <- this]
theorem LwQ.size {n:Nat} {input:List Int} {S:List (List Int)} {U:List AffQ} {Y:List (List AffQ)} {D B N:Nat} (h:LwQ n input S U Y D B N) {j:Nat} {s:List Int} {y:List AffQ} (hs:S[j]? =some s) (hy:Y[j]? =some y):(y.length:Int)=sizeL s:=by
 obtain ⟨x,YQ,_,hl⟩:=h.lo;have hq:YQ[j]? =some (y.map (evalA (evalU x U))):=by rw [<- hl.ev,List.getElem?_map,hy];rfl
 have:=hl.size j s _ hs hq
 rwa [List.length_map] at this
theorem LwQ.vars {n:Nat} {input:List Int} {S:List (List Int)} {U:List AffQ} {Y:List (List AffQ)} {D B N:Nat} (h:LwQ n input S U Y D B N):((varsF n).length:Int)=sizeL input:=by
 obtain ⟨x,YQ,rfl,hl⟩:=h.lo;rw [<- hl.x0];simp [varsF]
theorem LwQ.curr {n:Nat} {input:List Int} {S:List (List Int)} {U:List AffQ} {Y:List (List AffQ)} {D B N:Nat} (h:LwQ n input S U Y D B N):((currF (varsF n) Y).length:Int)=sizeL (currL input S)/\BdFs D B N (currF (varsF n) Y):=by
 unfold currF currL;rw [List.getLast?_eq_getElem?,List.getLast?_eq_getElem?,h.len]
 cases hy:Y[Y.length - 1]? with
 | none=>
  have hs:S[Y.length - 1]? =none:=by
   rw [List.getElem?_eq_none_iff] at hy ⊢;have:=h.len;omega
  rw [hs];exact ⟨h.vars,h.b0⟩
 | some y=>
  have hlt:=(List.getElem?_eq_some_iff.1 hy).1;have hls:Y.length - 1 < S.length:=by rw [h.len];exact hlt
  have hs:S[Y.length - 1]? =some (S[Y.length - 1]'hls):=List.getElem?_eq_getElem hls;rw [hs];exact ⟨h.size hs hy,h.bY y (List.mem_of_getElem? hy)⟩
theorem LwQ.frm {n:Nat} {input:List Int} {S:List (List Int)} {U:List AffQ} {Y:List (List AffQ)} {D B N:Nat} (h:LwQ n input S U Y D B N) (f:Int):BdFs D B N (fromF (varsF n) Y f):=by
 unfold fromF
 split
 ·rw [List.getD_eq_getElem?_getD]
  cases hy:Y[f.toNat]? with
  | none=>exact BdFs.nil _ _ _
  | some y=>exact h.bY y (List.mem_of_getElem? hy)
 ·exact h.b0
theorem LwQ.flen {n:Nat} {input:List Int} {S:List (List Int)} {U:List AffQ} {Y:List (List AffQ)} {D B N:Nat} (h:LwQ n input S U Y D B N) {f:Int} (h1: -1<=f) (h2:f < S.length) (h3:(if 0<=f then S.getD f.toNat [] else input)=currL input S):
  (fromF (varsF n) Y f).length=(currF (varsF n) Y).length/\∃ fr1:Nat,f+1=(fr1:Int)/\fr1 < Y.length+1/\(varsF n::Y)[fr1]? =some (fromF (varsF n) Y f):=by
 have hc:=h.curr.1;have hl:=h.len;rw [<- h3] at hc;unfold fromF
 by_cases h0:0<=f
 ·rw [if_pos h0] at hc ⊢;have hlt2:f.toNat < Y.length:=by omega
  have hlt1:f.toNat < S.length:=by omega
  refine ⟨?_,f.toNat+1,by omega,by omega,?_⟩
  ·rw [List.getD_eq_getElem?_getD,List.getElem?_eq_getElem hlt2];rw [List.getD_eq_getElem?_getD,List.getElem?_eq_getElem hlt1] at hc;have:=h.size (List.getElem?_eq_getElem hlt1) (List.getElem?_eq_getElem hlt2);simp only [Option.getD_some] at hc ⊢;omega
  ·rw [List.getElem?_cons_succ,List.getD_eq_getElem?_getD,List.getElem?_eq_getElem hlt2];rfl
 ·rw [if_neg h0] at hc ⊢
  refine ⟨?_,0,by omega,by omega,rfl⟩
  have:=h.vars;omega
theorem LwQ.step {n:Nat} {input:List Int} {S:List (List Int)} {U:List AffQ} {Y:List (List AffQ)} {D B N:Nat} {l:LayL} (h:LwQ n input S U Y D B N) (hl:(outSL input S l).2=0) (hs:SmallL l) (hv:validL (currL input S)=true)
  (hN:n+(lowLay n U l (currL input S) (currF (varsF n) Y) (fromF (varsF n) Y l.frm)).1.length<=N):
  ∃ k,0 < k/\k<=WQ/\LwQ n input (S++[(outSL input S l).1]) (lowLay n U l (currL input S) (currF (varsF n) Y) (fromF (varsF n) Y l.frm)).1 (Y++[(lowLay n U l (currL input S) (currF (varsF n) Y) (fromF (varsF n) Y l.frm)).2]) (D * k) (9671406556917033397649408 * B) N:=by
 obtain ⟨hc,hcb⟩:=h.curr;have hsz:=(validL_size hv).2;obtain ⟨k,k1,k2,k3⟩:=lowLay_bd (nI:=n) (U:=U) (fit_of hl).1 hc (by omega) hcb (h.frm l.frm) h.hD h.hB hs hN;have hB:=h.hB
 refine ⟨k,k1,k2,?_,Nat.mul_pos h.hD k1,by omega,(h.b0.bump k1).mono (by omega) (Nat.le_refl _),?_⟩
 ·obtain ⟨x,YQ,rfl,hL⟩:=h.lo;exact ⟨x,_,rfl,hL.step hl⟩
 ·intro y hy
  rcases List.mem_append.1 hy with hy | hy
  ·exact ((h.bY y hy).bump k1).mono (by omega) (Nat.le_refl _)
  ·rw [List.mem_singleton] at hy;rw [hy];exact k3
theorem low_total {n:Nat} {input:List Int} {T:List (List Int)} {L:List LayL} (h:(n:Int)=sizeL input) (hc:Chain input [] T L):((lowFrom n input (varsF n) [] [] [] L).1.length:Int)=cntL L T:=by
 have hl:(List.replicate n (0:Rat)).length=n:=by simp
 have:=low_cnt (LowI.start (x:=List.replicate n 0) (by simpa using h)) hc;rw [hl] at this
 simpa using this
theorem room_low:RoomK 12 1 1:=room_ofU (n:=0) (u:=0) (by decide) (by decide) (by omega)
structure AllV (gG n:Nat) (W1:World) (U:List AffQ) (L:List Su) (p:Nat) (dp:List (Nat × Nat)) (x0:Value) (Post:Value->World->Prop) (d:Nat->Bool) (g:Nat->Value) (W:World):Prop where
 cl:∀ q ∈ dp,d q.1=true->d q.2=true
 z0:d 0=true->g 0=x0
 st:(d p=false/\AllU gG n W1 U U 99 L d g W) ∨ (d p=true/\(∀ i,0 < i->i < p->d i=true)/\Post (g p) W)
section
variable {gG n:Nat} {W1:World} {U:List AffQ} {L:List Su} {p:Nat} {dp:List (Nat × Nat)} {x0:Value} {Post:Value->World->Prop} {d:Nat->Bool} {g:Nat->Value} {W W':World}
theorem AllV.start (h:LSt W1 gG n U) (g:Nat->Value):AllV gG n W1 U L p dp x0 Post (fun _=>false) g W1.drew:=⟨(fun _ _ h=>by cases h),(fun h=>by cases h),.inl ⟨rfl,AllU.start h g⟩⟩
theorem mark_cl (hc:∀ q ∈ dp,d q.1=true->d q.2=true) {i:Nat} (hd:∀ q ∈ dp,q.1=i->d q.2=true):∀ q ∈ dp,mark d i q.1=true->mark d i q.2=true:=by
 intro q hq h;have hup:d q.2=true->mark d i q.2=true:=fun h=>by unfold mark;split <;> first | rfl | exact h
 by_cases e:q.1=i
 ·exact hup (hd q hq e)
 ·rw [mark_ne e] at h;exact hup (hc q hq h)
theorem AllV.one (hV:AllV gG n W1 U L p dp x0 Post d g W) {i:Nat} {v:Value} (hi:p ≠ i) (hdeps:∀ q ∈ dp,q.1=i->d q.2=true) (hx:i=0->v=x0) (hp:d p=false) (h:AllU gG n W1 U U 99 L (mark d i) (upd g i v) W'):AllV gG n W1 U L p dp x0 Post (mark d i) (upd g i v) W':=by
 refine ⟨mark_cl hV.cl hdeps,fun h0=>?_,.inl ⟨by rw [mark_ne hi];exact hp,h⟩⟩
 unfold upd
 by_cases e:0=i
 ·rw [if_pos e];exact hx e.symm
 ·rw [if_neg e];rw [mark_ne e] at h0;exact hV.z0 h0
theorem AllV.late (hV:AllV gG n W1 U L p dp x0 Post d g W) (hp0:p ≠ 0) (hdeps:∀ q ∈ dp,q.1 ≠ 0) (hp:d p=true) (ha:∀ i,0 < i->i < p->d i=true) (hP:Post (g p) W):AllV gG n W1 U L p dp x0 Post (mark d 0) (upd g 0 x0) W:=by
 refine ⟨mark_cl hV.cl (fun q hq e=>absurd e (hdeps q hq)),fun _=>by unfold upd;rw [if_pos rfl],.inr ⟨by rw [mark_ne hp0];exact hp,fun i h1 h2=>by rw [mark_ne (by omega)];exact ha i h1 h2,?_⟩⟩
 unfold upd;rw [if_neg hp0];exact hP
theorem AllV.app (hV:AllV gG n W1 U L p dp x0 Post d g W) {v:Value} (hp0:p ≠ 0) (ha:∀ i,0 < i->i < p->d i=true) (hdeps:∀ q ∈ dp,q.1 ≠ p) (hP:Post v W'):AllV gG n W1 U L p dp x0 Post (mark d p) (upd g p v) W':=by
 refine ⟨mark_cl hV.cl (fun q hq e=>absurd e (hdeps q hq)),fun h0=>?_,.inr ⟨by unfold mark;rw [if_pos rfl],fun i h1 h2=>by rw [mark_ne (by omega)];exact ha i h1 h2,by unfold upd;rw [if_pos rfl];exact hP⟩⟩
 unfold upd;rw [if_neg (fun e=>hp0 e.symm)];rw [mark_ne (fun e=>hp0 e.symm)] at h0;exact hV.z0 h0
end
theorem own_forms {w:World} {base:Nat} {a:Option Addr} {n c:Nat} {L:List AffQ} {xs:List Value} (ho:w.ownsRow base 53 4 (.slice a n c) n xs) (hn:L.length=n) (he:∀ (j:Nat) (x:AffQ),L[j]? =some x->∃ p0 p1 p2 p3,xs[j * 4]? =some p0/\xs[j * 4+1]? =some p1/\xs[j * 4+2]? =some p2/\xs[j * 4+3]? =some p3/\FormP w p0 p1 p2 p3 x) (hl:L.length<=9223372036854775807):FormsAt w a L:=by
 rcases ho.2 with ⟨e,h0⟩ | ⟨g,cap,cur,e,hb,hg,hnc,hcm,hcs,htake⟩
 ·exact ⟨hl,.inl (List.eq_nil_of_length_eq_zero (by omega))⟩
 ·cases e
  refine ⟨hl,.inr ⟨g,0,rfl,(Array.getElem?_eq_some_iff.1 hg).1,fun j x hj=>?_⟩⟩
  obtain ⟨p0,p1,p2,p3,h0,h1,h2,h3,h4⟩:=he j x hj;have k0:=ho.cells (g:=g) rfl _ _ h0;have k1:=ho.cells (g:=g) rfl _ _ h1;have k2:=ho.cells (g:=g) rfl _ _ h2;have k3:=ho.cells (g:=g) rfl _ _ h3;simp only [Addr.add_lit] at k0 k1 k2 k3;exact ⟨p0,p1,p2,p3,k0,k1,k2,k3,h4⟩
theorem fin_graph {X w':World} {gG n g c:Nat} {U L:List AffQ} {b:Option Addr} (hL:LSt X gG n U) (hU:U.length<=9223372036854775807) (hb:Below X.heap.size X w') (hO:FormsAt w' b L) (hc:L.length<=c) (hz:AllB isZF w' g) (hne:g ≠ gG):
  ∃ aU cU,(w'.setCell ⟨gG,2,none⟩ (.slice b L.length c)).cell? ⟨gG,0,none⟩=some (.int .i64 (n:Int))/\(w'.setCell ⟨gG,2,none⟩ (.slice b L.length c)).cell? ⟨gG,1,none⟩=some (.slice aU U.length cU)/\(w'.setCell ⟨gG,2,none⟩ (.slice b L.length c)).cell? ⟨gG,2,none⟩=some (.slice b L.length c)/\
   GraphV ((((w'.setCell ⟨gG,2,none⟩ (.slice b L.length c)).setCell ⟨g,0,none⟩ (.int .i64 (n:Int))).setCell ⟨g,1,none⟩ (.slice aU U.length cU)).setCell ⟨g,2,none⟩ (.slice b L.length c)) (.agg #[.int .i64 (n:Int),.slice aU U.length cU,.slice b L.length c]) ⟨n,U,L⟩:=by
 have hL':=hL.below hb;obtain ⟨aU,cU,h1,ho⟩:=hL'.g1;have hcU:U.length<=cU:=by
  obtain ⟨a',c',e,hc⟩:=ho.form;cases e;exact hc
 have hz2:AllB isZF (w'.setCell ⟨gG,2,none⟩ (.slice b L.length c)) g:=fun o x e=>hz o x (by rw [cell_other (by exact hne)] at e;exact e)
 have f1:=forms_gset (o:=2) (u:=.slice b L.length c) (ho.read hU) hL'.blk;have f2:=forms_gset (o:=2) (u:=.slice b L.length c) hO hL'.blk;have hz3:=hz2.set 0 (v:=.int .i64 (n:Int)) rfl;have hz4:=hz3.set 1 (v:=.slice aU U.length cU) rfl
 refine ⟨aU,cU,(World.cell?_setCell_other _ _ _ _ (fun e=>by cases e)).trans hL'.g0,(World.cell?_setCell_other _ _ _ _ (fun e=>by cases e)).trans h1,World.cell?_setCell_same _ _ _ hL'.g2,aU,cU,b,c,rfl,hcU,hc,?_,?_⟩
 ·exact forms_setZ (forms_setZ (forms_setZ f1 hz2) hz3) hz4
 ·exact forms_setZ (forms_setZ (forms_setZ f2 hz2) hz3) hz4
structure LwK (w2:World) (S:LowV) (sh:List Int) (nx j gG:Nat):Prop where
 nS:sh.length=S.nS
 sh:Ints w2 Any S.aS sh
 nx:nx=S.nx
 cx:S.nx<=S.cx
 nT:S.nT=j+1
 fu:S.fu=unitV gG
end Go.Proofs.YtfgmmghmmfmdgaaGreat
