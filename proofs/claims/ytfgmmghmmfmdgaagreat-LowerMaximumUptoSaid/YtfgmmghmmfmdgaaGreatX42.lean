/-
  Contracts of the functions that the statement reaches: LjL, LjM.
-/
import Derived.Test.YtfgmmghmmfmdgaaGreatX41
set_option linter.all false
set_option maxRecDepth 100000
set_option maxHeartbeats 3200000
namespace Go.Proofs.YtfgmmghmmfmdgaaGreat
open Go.RowKit
open Go.Lib (hid)
structure LwQ (n:Nat) (input:List Int) (S:List (List Int)) (U:List AffQ) (Y:List (List AffQ)) (D B N:Nat):Prop where
 lo:∃ (x:List Rat) (YQ:List (List Rat)),x.length=n/\LowI x input S U Y YQ
 hD:0 < D
 hB:1<=B
 b0:BdFs D B N (varsF n)
 bY:∀ y ∈ Y,BdFs D B N y
theorem LwQ.start {n N:Nat} {input:List Int} (h:(n:Int)=sizeL input) (hN:n<=N):LwQ n input [] [] [] 1 1 N:=by
 refine ⟨⟨List.replicate n 0,[],by simp,LowI.start (by simpa using h)⟩,by omega,by omega,fun f hf=>?_,by simp⟩
 obtain ⟨v,hv,rfl⟩:=List.mem_map.1 hf;have:=List.mem_range.1 hv;exact BdF.var (by omega) (by omega) (by omega)
theorem LwQ.len {n:Nat} {input:List Int} {S:List (List Int)} {U:List AffQ} {Y:List (List AffQ)} {D B N:Nat} (h:LwQ n input S U Y D B N):S.length=Y.length:=by
 obtain ⟨x,YQ,_,hl⟩:=h.lo;have:=congrArg List.length hl.ev;rw [List.length_map] at this;rw [hl.len, <- this]
theorem LwQ.size {n:Nat} {input:List Int} {S:List (List Int)} {U:List AffQ} {Y:List (List AffQ)} {D B N:Nat} (h:LwQ n input S U Y D B N) {j:Nat} {s:List Int} {y:List AffQ} (hs:S[j]? =some s) (hy:Y[j]? =some y):(y.length:Int)=sizeL s:=by
 obtain ⟨x,YQ,_,hl⟩:=h.lo;have hq:YQ[j]? =some (y.map (evalA (evalU x U))):=by rw [<- hl.ev,List.getElem?_map,hy];rfl
 have:=hl.size j s _ hs hq
 rwa [List.length_map] at this
theorem LwQ.vars {n:Nat} {input:List Int} {S:List (List Int)} {U:List AffQ} {Y:List (List AffQ)} {D B N:Nat} (h:LwQ n input S U Y D B N):((varsF n).length:Int)=sizeL input:=by
 obtain ⟨x,YQ,rfl,hl⟩:=h.lo;rw [<- hl.x0];simp [varsF]
theorem LwQ.curr {n:Nat} {input:List Int} {S:List (List Int)} {U:List AffQ} {Y:List (List AffQ)} {D B N:Nat} (h:LwQ n input S U Y D B N):((currF (varsF n) Y).length:Int)=sizeL (currL input S)/\BdFs D B N (currF (varsF n) Y):=by
 unfold currF currL;rw [List.getLast?_eq_getElem?,List.getLast?_eq_getElem?,h.len]
 cases hy:Y[Y.length - 1]? with
 | none=>
  have hs:S[Y.length - 1]? =none:=by
   rw [List.getElem?_eq_none_iff] at hy ⊢;have:=h.len;omega
  rw [hs];exact ⟨h.vars,h.b0⟩
 | some y=>
  have hlt:=(List.getElem?_eq_some_iff.1 hy).1;have hls:Y.length - 1 < S.length:=by rw [h.len];exact hlt
  have hs:S[Y.length - 1]? =some (S[Y.length - 1]'hls):=List.getElem?_eq_getElem hls;rw [hs];exact ⟨h.size hs hy,h.bY y (List.mem_of_getElem? hy)⟩
theorem LwQ.frm {n:Nat} {input:List Int} {S:List (List Int)} {U:List AffQ} {Y:List (List AffQ)} {D B N:Nat} (h:LwQ n input S U Y D B N) (f:Int):BdFs D B N (fromF (varsF n) Y f):=by
 unfold fromF
 split
 ·rw [List.getD_eq_getElem?_getD]
  cases hy:Y[f.toNat]? with
  | none=>exact BdFs.nil _ _ _
  | some y=>exact h.bY y (List.mem_of_getElem? hy)
 ·exact h.b0
theorem LwQ.flen {n:Nat} {input:List Int} {S:List (List Int)} {U:List AffQ} {Y:List (List AffQ)} {D B N:Nat} (h:LwQ n input S U Y D B N) {f:Int} (h1: -1<=f) (h2:f < S.length) (h3:(if 0<=f then S.getD f.toNat [] else input)=currL input S):
  (fromF (varsF n) Y f).length=(currF (varsF n) Y).length/\∃ fr1:Nat,f+1=(fr1:Int)/\fr1 < Y.length+1/\(varsF n::Y)[fr1]? =some (fromF (varsF n) Y f):=by
 have hc:=h.curr.1;have hl:=h.len;rw [<- h3] at hc;unfold fromF
 by_cases h0:0<=f
 ·rw [if_pos h0] at hc ⊢;have hlt2:f.toNat < Y.length:=by omega
  have hlt1:f.toNat < S.length:=by omega
  refine ⟨?_,f.toNat+1,by omega,by omega,?_⟩
  ·rw [List.getD_eq_getElem?_getD,List.getElem?_eq_getElem hlt2];rw [List.getD_eq_getElem?_getD,List.getElem?_eq_getElem hlt1] at hc;have:=h.size (List.getElem?_eq_getElem hlt1) (List.getElem?_eq_getElem hlt2);simp only [Option.getD_some] at hc ⊢;omega
  ·rw [List.getElem?_cons_succ,List.getD_eq_getElem?_getD,List.getElem?_eq_getElem hlt2];rfl
 ·rw [if_neg h0] at hc ⊢
  refine ⟨?_,0,by omega,by omega,rfl⟩
  have:=h.vars;omega
theorem LwQ.step {n:Nat} {input:List Int} {S:List (List Int)} {U:List AffQ} {Y:List (List AffQ)} {D B N:Nat} {l:LayL} (h:LwQ n input S U Y D B N) (hl:(outSL input S l).2=0) (hs:SmallL l) (hv:validL (currL input S)=true)
  (hN:n+(lowLay n U l (currL input S) (currF (varsF n) Y) (fromF (varsF n) Y l.frm)).1.length<=N):
  ∃ k,0 < k/\k<=WQ/\LwQ n input (S++[(outSL input S l).1]) (lowLay n U l (currL input S) (currF (varsF n) Y) (fromF (varsF n) Y l.frm)).1 (Y++[(lowLay n U l (currL input S) (currF (varsF n) Y) (fromF (varsF n) Y l.frm)).2]) (D * k) (9671406556917033397649408 * B) N:=by
 obtain ⟨hc,hcb⟩:=h.curr;have hsz:=(validL_size hv).2;obtain ⟨k,k1,k2,k3⟩:=lowLay_bd (nI:=n) (U:=U) (fit_of hl).1 hc (by omega) hcb (h.frm l.frm) h.hD h.hB hs hN;have hB:=h.hB
 refine ⟨k,k1,k2,?_,Nat.mul_pos h.hD k1,by omega,(h.b0.bump k1).mono (by omega) (Nat.le_refl _),?_⟩
 ·obtain ⟨x,YQ,rfl,hL⟩:=h.lo;exact ⟨x,_,rfl,hL.step hl⟩
 ·intro y hy
  rcases List.mem_append.1 hy with hy | hy
  ·exact ((h.bY y hy).bump k1).mono (by omega) (Nat.le_refl _)
  ·rw [List.mem_singleton] at hy;rw [hy];exact k3
theorem low_total {n:Nat} {input:List Int} {T:List (List Int)} {L:List LayL} (h:(n:Int)=sizeL input) (hc:Chain input [] T L):((lowFrom n input (varsF n) [] [] [] L).1.length:Int)=cntL L T:=by
 have hl:(List.replicate n (0:Rat)).length=n:=by simp
 have:=low_cnt (LowI.start (x:=List.replicate n 0) (by simpa using h)) hc;rw [hl] at this
 simpa using this
theorem room_low:RoomK 12 1 1:=room_ofU (n:=0) (u:=0) (by decide) (by decide) (by omega)
structure AllV (gG n:Nat) (W1:World) (U:List AffQ) (L:List Su) (p:Nat) (dp:List (Nat × Nat)) (x0:Value) (Post:Value->World->Prop) (d:Nat->Bool) (g:Nat->Value) (W:World):Prop where
 cl:∀ q ∈ dp,d q.1=true->d q.2=true
 z0:d 0=true->g 0=x0
 st:(d p=false/\AllU gG n W1 U U 99 L d g W) ∨ (d p=true/\(∀ i,0 < i->i < p->d i=true)/\Post (g p) W)
section
variable {gG n:Nat} {W1:World} {U:List AffQ} {L:List Su} {p:Nat} {dp:List (Nat × Nat)} {x0:Value} {Post:Value->World->Prop} {d:Nat->Bool} {g:Nat->Value} {W W':World}
theorem AllV.start (h:LSt W1 gG n U) (g:Nat->Value):AllV gG n W1 U L p dp x0 Post (fun _=>false) g W1.drew:=⟨(fun _ _ h=>by cases h),(fun h=>by cases h),.inl ⟨rfl,AllU.start h g⟩⟩
theorem mark_cl (hc:∀ q ∈ dp,d q.1=true->d q.2=true) {i:Nat} (hd:∀ q ∈ dp,q.1=i->d q.2=true):∀ q ∈ dp,mark d i q.1=true->mark d i q.2=true:=by
 intro q hq h;have hup:d q.2=true->mark d i q.2=true:=fun h=>by unfold mark;split <;> first | rfl | exact h
 by_cases e:q.1=i
 ·exact hup (hd q hq e)
 ·rw [mark_ne e] at h;exact hup (hc q hq h)
theorem AllV.one (hV:AllV gG n W1 U L p dp x0 Post d g W) {i:Nat} {v:Value} (hi:p ≠ i) (hdeps:∀ q ∈ dp,q.1=i->d q.2=true) (hx:i=0->v=x0) (hp:d p=false) (h:AllU gG n W1 U U 99 L (mark d i) (upd g i v) W'):AllV gG n W1 U L p dp x0 Post (mark d i) (upd g i v) W':=by
 refine ⟨mark_cl hV.cl hdeps,fun h0=>?_,.inl ⟨by rw [mark_ne hi];exact hp,h⟩⟩
 unfold upd
 by_cases e:0=i
 ·rw [if_pos e];exact hx e.symm
 ·rw [if_neg e];rw [mark_ne e] at h0;exact hV.z0 h0
theorem AllV.late (hV:AllV gG n W1 U L p dp x0 Post d g W) (hp0:p ≠ 0) (hdeps:∀ q ∈ dp,q.1 ≠ 0) (hp:d p=true) (ha:∀ i,0 < i->i < p->d i=true) (hP:Post (g p) W):AllV gG n W1 U L p dp x0 Post (mark d 0) (upd g 0 x0) W:=by
 refine ⟨mark_cl hV.cl (fun q hq e=>absurd e (hdeps q hq)),fun _=>by unfold upd;rw [if_pos rfl],.inr ⟨by rw [mark_ne hp0];exact hp,fun i h1 h2=>by rw [mark_ne (by omega)];exact ha i h1 h2,?_⟩⟩
 unfold upd;rw [if_neg hp0];exact hP
theorem AllV.app (hV:AllV gG n W1 U L p dp x0 Post d g W) {v:Value} (hp0:p ≠ 0) (ha:∀ i,0 < i->i < p->d i=true) (hdeps:∀ q ∈ dp,q.1 ≠ p) (hP:Post v W'):AllV gG n W1 U L p dp x0 Post (mark d p) (upd g p v) W':=by
 refine ⟨mark_cl hV.cl (fun q hq e=>absurd e (hdeps q hq)),fun h0=>?_,.inr ⟨by unfold mark;rw [if_pos rfl],fun i h1 h2=>by rw [mark_ne (by omega)];exact ha i h1 h2,by unfold upd;rw [if_pos rfl];exact hP⟩⟩
 unfold upd;rw [if_neg (fun e=>hp0 e.symm)];rw [mark_ne (fun e=>hp0 e.symm)] at h0;exact hV.z0 h0
end
theorem own_forms {w:World} {base:Nat} {a:Option Addr} {n c:Nat} {L:List AffQ} {xs:List Value} (ho:w.ownsRow base 53 4 (.slice a n c) n xs) (hn:L.length=n) (he:∀ (j:Nat) (x:AffQ),L[j]? =some x->∃ p0 p1 p2 p3,xs[j * 4]? =some p0/\xs[j * 4+1]? =some p1/\xs[j * 4+2]? =some p2/\xs[j * 4+3]? =some p3/\FormP w p0 p1 p2 p3 x) (hl:L.length<=9223372036854775807):FormsAt w a L:=by
 rcases ho.2 with ⟨e,h0⟩ | ⟨g,cap,cur,e,hb,hg,hnc,hcm,hcs,htake⟩
 ·exact ⟨hl,.inl (List.eq_nil_of_length_eq_zero (by omega))⟩
 ·cases e
  refine ⟨hl,.inr ⟨g,0,rfl,(Array.getElem?_eq_some_iff.1 hg).1,fun j x hj=>?_⟩⟩
  obtain ⟨p0,p1,p2,p3,h0,h1,h2,h3,h4⟩:=he j x hj;have k0:=ho.cells (g:=g) rfl _ _ h0;have k1:=ho.cells (g:=g) rfl _ _ h1;have k2:=ho.cells (g:=g) rfl _ _ h2;have k3:=ho.cells (g:=g) rfl _ _ h3;simp only [Addr.add_lit] at k0 k1 k2 k3;exact ⟨p0,p1,p2,p3,k0,k1,k2,k3,h4⟩
theorem fin_graph {X w':World} {gG n g c:Nat} {U L:List AffQ} {b:Option Addr} (hL:LSt X gG n U) (hU:U.length<=9223372036854775807) (hb:Below X.heap.size X w') (hO:FormsAt w' b L) (hc:L.length<=c) (hz:AllB isZF w' g) (hne:g ≠ gG):
  ∃ aU cU,(w'.setCell ⟨gG,2,none⟩ (.slice b L.length c)).cell? ⟨gG,0,none⟩=some (.int .i64 (n:Int))/\(w'.setCell ⟨gG,2,none⟩ (.slice b L.length c)).cell? ⟨gG,1,none⟩=some (.slice aU U.length cU)/\(w'.setCell ⟨gG,2,none⟩ (.slice b L.length c)).cell? ⟨gG,2,none⟩=some (.slice b L.length c)/\
   GraphV ((((w'.setCell ⟨gG,2,none⟩ (.slice b L.length c)).setCell ⟨g,0,none⟩ (.int .i64 (n:Int))).setCell ⟨g,1,none⟩ (.slice aU U.length cU)).setCell ⟨g,2,none⟩ (.slice b L.length c)) (.agg #[.int .i64 (n:Int),.slice aU U.length cU,.slice b L.length c]) ⟨n,U,L⟩:=by
 have hL':=hL.below hb;obtain ⟨aU,cU,h1,ho⟩:=hL'.g1;have hcU:U.length<=cU:=by
  obtain ⟨a',c',e,hc⟩:=ho.form;cases e;exact hc
 have hz2:AllB isZF (w'.setCell ⟨gG,2,none⟩ (.slice b L.length c)) g:=fun o x e=>hz o x (by rw [cell_other (by exact hne)] at e;exact e)
 have f1:=forms_gset (o:=2) (u:=.slice b L.length c) (ho.read hU) hL'.blk;have f2:=forms_gset (o:=2) (u:=.slice b L.length c) hO hL'.blk;have hz3:=hz2.set 0 (v:=.int .i64 (n:Int)) rfl;have hz4:=hz3.set 1 (v:=.slice aU U.length cU) rfl
 refine ⟨aU,cU,(World.cell?_setCell_other _ _ _ _ (fun e=>by cases e)).trans hL'.g0,(World.cell?_setCell_other _ _ _ _ (fun e=>by cases e)).trans h1,World.cell?_setCell_same _ _ _ hL'.g2,aU,cU,b,c,rfl,hcU,hc,?_,?_⟩
 ·exact forms_setZ (forms_setZ (forms_setZ f1 hz2) hz3) hz4
 ·exact forms_setZ (forms_setZ (forms_setZ f2 hz2) hz3) hz4
structure LwK (w2:World) (S:LowV) (sh:List Int) (nx j gG:Nat):Prop where
 nS:sh.length=S.nS
 sh:Ints w2 Any S.aS sh
 nx:nx=S.nx
 cx:S.nx<=S.cx
 nT:S.nT=j+1
 fu:S.fu=unitV gG
end Go.Proofs.YtfgmmghmmfmdgaaGreat
