/-
  Contracts of the functions that the statement reaches: LinT, LinU, LinV, LinX.
-/
import Derived.Test.YtfgmmghmmfmdgaaGreatK35
set_option linter.all false
set_option maxRecDepth 100000
set_option maxHeartbeats 3200000
namespace Go.Proofs.YtfgmmghmmfmdgaaGreat
open Go.RowKit
open Go.Lib (hid)
def ub (w:World) (gG:Nat):Option Nat:=match w.cell? ⟨gG,1,none⟩ with | some v=>v.ownBlock | none=>none
structure LSt (w:World) (gG n:Nat) (U:List AffQ):Prop where
 g0:w.cell? ⟨gG,0,none⟩=some (.int .i64 (n:Int))
 g1:∃ a c,w.cell? ⟨gG,1,none⟩=some (.slice a U.length c)/\OwnF w (gG+1) (.slice a U.length c) U
 g2:w.cell? ⟨gG,2,none⟩=some (.slice none 0 0)
 g3:∀ o,3<=o->w.cell? ⟨gG,o,none⟩=none
 fz:∀ o,w.frozen? ⟨gG,o,none⟩=false
 lt:gG < w.heap.size
structure Fre (gG:Nat) (w:World) (b:Nat):Prop where
 lt:b < w.heap.size
 ne:b ≠ gG
 nu:ub w gG ≠ some b
structure Stp (gG:Nat) (w w':World):Prop where
 os:w'.os=w.os
 tape:w'.tape=w.tape
 output:w'.output=w.output
 size:w.heap.size<=w'.heap.size
 block:∀ k,k < w.heap.size->k ≠ gG->ub w gG ≠ some k->w'.heap[k]? =w.heap[k]?
 next:ub w' gG=ub w gG ∨ ∃ k,ub w' gG=some k/\w.heap.size<=k
theorem Stp.refl (gG:Nat) (w:World):Stp gG w w:=⟨rfl,rfl,rfl,Nat.le_refl _,fun _ _ _ _=>rfl,.inl rfl⟩
theorem Stp.trans {gG:Nat} {a b c:World} (h:Stp gG a b) (k:Stp gG b c):Stp gG a c:=by
 refine ⟨k.os.trans h.os,k.tape.trans h.tape,k.output.trans h.output,Nat.le_trans h.size k.size,fun j hj hg hu=>(k.block j (Nat.lt_of_lt_of_le hj h.size) hg ?_).trans (h.block j hj hg hu),?_⟩
 ·rcases h.next with e | ⟨q,e,hq⟩
  ·rw [e];exact hu
  ·rw [e];intro x;cases x;omega
 ·rcases k.next with e | ⟨q,e,hq⟩
  ·rw [e];exact h.next
  ·exact .inr ⟨q,e,Nat.le_trans h.size hq⟩
theorem Stp.of {gG:Nat} {w w':World} (hb:Below w.heap.size w w') (hg:gG < w.heap.size):Stp gG w w':=
 ⟨hb.os,hb.tape,hb.output,hb.size,fun k hk _ _=>hb.block k hk,.inl (by unfold ub;rw [hb.cell hg])⟩
theorem LSt.ub_ge {w:World} {gG n:Nat} {U:List AffQ} (h:LSt w gG n U) {k:Nat} (e:ub w gG=some k):gG < k/\k < w.heap.size:=by
 obtain ⟨a,c,h1,ho⟩:=h.g1;unfold ub at e;rw [h1] at e;have:=ho.lt e;omega
theorem LSt.below {w w':World} {gG n:Nat} {U:List AffQ} (h:LSt w gG n U) (hb:Below w.heap.size w w'):LSt w' gG n U:=by
 obtain ⟨g0,⟨a,c,h1,ho⟩,g2,g3,fz,lt⟩:=h;have k:=fun o=>hb.cell (p:=⟨gG,o,none⟩) lt
 exact ⟨(k 0).trans g0,⟨a,c,(k 1).trans h1,ho.below formK hb⟩,(k 2).trans g2,fun o ho=>(k o).trans (g3 o ho),fun o=>(hb.frozen lt).trans (fz o),Nat.lt_of_lt_of_le lt hb.size⟩
theorem Stp.below {w w':World} {gG n:Nat} {U:List AffQ} (h:Stp gG w w') (hs:LSt w gG n U):Below gG w w':=
 ⟨h.os,h.tape,h.output,h.size,fun k hk=>h.block k (by have:=hs.lt;omega) (by omega) (fun e=>by have:=hs.ub_ge e;omega)⟩
theorem LSt.fresh {w w':World} {gG n:Nat} {U:List AffQ} (h:LSt w gG n U) (hb:Below w.heap.size w w') {b:Nat} (h1:w.heap.size<=b) (h2:b < w'.heap.size):Fre gG w' b:=by
 refine ⟨h2,by have:=h.lt;omega,fun e=>?_⟩
 have e2:ub w' gG=ub w gG:=by unfold ub;rw [hb.cell h.lt]
 rw [e2] at e;have:=h.ub_ge e;omega
theorem Fre.stp {gG b:Nat} {w w':World} (h:Fre gG w b) (hs:Stp gG w w'):Fre gG w' b:=by
 refine ⟨Nat.lt_of_lt_of_le h.lt hs.size,h.ne,?_⟩
 rcases hs.next with e | ⟨q,e,hq⟩
 ·rw [e];exact h.nu
 ·rw [e];intro x;cases x;have:=h.lt;omega
theorem Fre.block {gG b:Nat} {w w':World} (h:Fre gG w b) (hs:Stp gG w w'):w'.heap[b]? =w.heap[b]? :=hs.block b h.lt h.ne h.nu
theorem Fre.cell {gG b o:Nat} {w w':World} (h:Fre gG w b) (hs:Stp gG w w'):w'.cell? ⟨b,o,none⟩=w.cell? ⟨b,o,none⟩:=World.cell?_of_block (h.block hs)
theorem Fre.frozen {gG b o:Nat} {w w':World} (h:Fre gG w b) (hs:Stp gG w w'):w'.frozen? ⟨b,o,none⟩=w.frozen? ⟨b,o,none⟩:=World.frozen?_of_block (h.block hs)
structure GBk (w:World) (gG:Nat):Prop where
 z0:∃ x,w.cell? ⟨gG,0,none⟩=some (.int .i64 x)
 z1:∃ a n c,w.cell? ⟨gG,1,none⟩=some (.slice a n c)
 z2:∃ a n c,w.cell? ⟨gG,2,none⟩=some (.slice a n c)
 z3:∀ o,3<=o->w.cell? ⟨gG,o,none⟩=none
theorem LSt.blk {w:World} {gG n:Nat} {U:List AffQ} (h:LSt w gG n U):GBk w gG:=
 ⟨⟨_,h.g0⟩,(let ⟨_,_,h1,_⟩:=h.g1;⟨_,_,_,h1⟩),⟨_,_,_,h.g2⟩,h.g3⟩
theorem GBk.ne {w:World} {gG b o:Nat} {k:IntKind} {x:Int} (h:GBk w gG) (hc:w.cell? ⟨b,o,none⟩=some (.int k x)) (hn:k=.u32 ∨ ∃ u,w.cell? ⟨b,o+1,none⟩=some u/\∀ a n c,u ≠ .slice a n c):b ≠ gG:=by
 rintro rfl;obtain ⟨⟨y,h0⟩,⟨a1,n1,c1,h1⟩,⟨a2,n2,c2,h2⟩,h3⟩:=h
 match o,hc,hn with
 | 0,hc,hn=>
  rw [h0] at hc;cases hc
  rcases hn with hn | ⟨u,hu,hn⟩
  ·cases hn
  ·rw [h1] at hu;cases hu;exact hn _ _ _ rfl
 | 1,hc,_=>rw [h1] at hc;cases hc
 | 2,hc,_=>rw [h2] at hc;cases hc
 | o+3,hc,_=>rw [h3 (o+3) (by omega)] at hc;cases hc
theorem LSt.fre {w:World} {gG n b o:Nat} {U:List AffQ} {k:IntKind} {x:Int} (h:LSt w gG n U) (hc:w.cell? ⟨b,o,none⟩=some (.int k x)) (hn:k=.u32 ∨ ∃ u,w.cell? ⟨b,o+1,none⟩=some u/\∀ a n c,u ≠ .slice a n c) (hb:b < w.heap.size):Fre gG w b:=by
 refine ⟨hb,h.blk.ne hc hn,fun e=>?_⟩
 obtain ⟨a,c,h1,ho⟩:=h.g1;unfold ub at e;rw [h1] at e;have:=ho.al b e o _ hc;cases this
theorem U32s.gset {w:World} {gG o:Nat} {u:Value} {a:Option Addr} {l:List Nat} (h:U32s w a l) (hg:GBk w gG):U32s (w.setCell ⟨gG,o,none⟩ u) a l:=by
 by_cases hl:l=[]
 ·rw [hl];exact U32s.nil _ _
 obtain ⟨b,off,rfl,hb,hc⟩:=h.open hl;have hp:=List.length_pos_iff.2 hl;have hf:=hg.ne (hc 0 hp) (.inl rfl)
 refine ⟨h.lim,h.len,h.row.imp id ?_⟩
 rintro ⟨b',off',e,_,hcc⟩;cases e;exact ⟨b,off,rfl,by simpa using hb,fun j d hj=>(cell_other (by exact hf)).trans (hcc j d hj)⟩
theorem RatC.gset {w:World} {gG o:Nat} {u:Value} {p1 p2 p3:Value} {q:Rat} (h:RatC w p1 p2 p3 q) (hg:GBk w gG):RatC (w.setCell ⟨gG,o,none⟩ u) p1 p2 p3 q:=by
 obtain ⟨an,ad,cn,cd,e1,e2,e3,l1,l2,u1,u2⟩:=h.ex;exact ⟨an,ad,cn,cd,e1,e2,e3,l1,l2,u1.gset hg,u2.gset hg⟩
theorem terms_gset {w:World} {gG o:Nat} {u:Value} {a:Option Addr} {L:List (Nat × Rat)} (h:TermsAt w a L) (hg:GBk w gG):TermsAt (w.setCell ⟨gG,o,none⟩ u) a L:=by
 refine ⟨h.len,?_⟩
 rcases h.row with rfl | ⟨b,off,rfl,hb,hc⟩
 ·exact .inl rfl
 ·by_cases hl:L=[]
  ·exact .inl hl
  ·have hp:=List.length_pos_iff.2 hl;obtain ⟨p0,p1,p2,p3,h0,h1,_,_,rfl,h4⟩:=hc 0 L[0] (List.getElem?_eq_getElem hp);obtain ⟨_,_,_,_,rfl,_⟩:=h4.ex;have hf:=hg.ne h0 (.inr ⟨_,h1,fun _ _ _ e=>by cases e⟩)
   refine .inr ⟨b,off,rfl,by simpa using hb,fun j x hj=>?_⟩
   obtain ⟨p0,p1,p2,p3,h0,h1,h2,h3,h4⟩:=hc j x hj;exact ⟨p0,p1,p2,p3,(cell_other (by exact hf)).trans h0,(cell_other (by exact hf)).trans h1,(cell_other (by exact hf)).trans h2,(cell_other (by exact hf)).trans h3,h4.1,h4.2.gset hg⟩
theorem FormP.gset {w:World} {gG o:Nat} {u:Value} {p0 p1 p2 p3:Value} {f:AffQ} (h:FormP w p0 p1 p2 p3 f) (hg:GBk w gG):FormP (w.setCell ⟨gG,o,none⟩ u) p0 p1 p2 p3 f:=by
 obtain ⟨⟨a,c,e,hc,ht⟩,hr⟩:=h;exact ⟨⟨a,c,e,hc,terms_gset ht hg⟩,hr.gset hg⟩
theorem U32s.stp {w w':World} {gG n:Nat} {U:List AffQ} {a:Option Addr} {l:List Nat} (h:U32s w a l) (hL:LSt w gG n U) (hs:Stp gG w w'):U32s w' a l:=by
 by_cases hl:l=[]
 ·rw [hl];exact U32s.nil _ _
 obtain ⟨b,off,rfl,hb,hc⟩:=h.open hl;have hp:=List.length_pos_iff.2 hl;have hf:=hL.fre (hc 0 hp) (.inl rfl) hb
 refine ⟨h.lim,h.len,h.row.imp id ?_⟩
 rintro ⟨b',off',e,_,hcc⟩;cases e;exact ⟨b,off,rfl,Nat.lt_of_lt_of_le hb hs.size,fun j d hj=>(hf.cell hs).trans (hcc j d hj)⟩
theorem RatC.stp {w w':World} {gG n:Nat} {U:List AffQ} {p1 p2 p3:Value} {q:Rat} (h:RatC w p1 p2 p3 q) (hL:LSt w gG n U) (hs:Stp gG w w'):RatC w' p1 p2 p3 q:=by
 obtain ⟨an,ad,cn,cd,e1,e2,e3,l1,l2,u1,u2⟩:=h.ex;exact ⟨an,ad,cn,cd,e1,e2,e3,l1,l2,u1.stp hL hs,u2.stp hL hs⟩
theorem terms_stp {w w':World} {gG n:Nat} {U:List AffQ} {a:Option Addr} {L:List (Nat × Rat)} (h:TermsAt w a L) (hL:LSt w gG n U) (hs:Stp gG w w'):TermsAt w' a L:=by
 refine ⟨h.len,?_⟩
 rcases h.row with rfl | ⟨b,off,rfl,hb,hc⟩
 ·exact .inl rfl
 ·by_cases hl:L=[]
  ·exact .inl hl
  ·have hp:=List.length_pos_iff.2 hl;obtain ⟨p0,p1,p2,p3,h0,h1,_,_,rfl,h4⟩:=hc 0 L[0] (List.getElem?_eq_getElem hp);obtain ⟨_,_,_,_,rfl,_⟩:=h4.ex;have hf:=hL.fre h0 (.inr ⟨_,h1,fun _ _ _ e=>by cases e⟩) hb
   refine .inr ⟨b,off,rfl,Nat.lt_of_lt_of_le hb hs.size,fun j x hj=>?_⟩
   obtain ⟨p0,p1,p2,p3,h0,h1,h2,h3,h4⟩:=hc j x hj;exact ⟨p0,p1,p2,p3,(hf.cell hs).trans h0,(hf.cell hs).trans h1,(hf.cell hs).trans h2,(hf.cell hs).trans h3,h4.1,h4.2.stp hL hs⟩
theorem FormP.stp {w w':World} {gG n:Nat} {U:List AffQ} {p0 p1 p2 p3:Value} {f:AffQ} (h:FormP w p0 p1 p2 p3 f) (hL:LSt w gG n U) (hs:Stp gG w w'):FormP w' p0 p1 p2 p3 f:=by
 obtain ⟨⟨a,c,e,hc,ht⟩,hr⟩:=h;exact ⟨⟨a,c,e,hc,terms_stp ht hL hs⟩,hr.stp hL hs⟩
theorem FormV.stp {w w':World} {gG n:Nat} {U:List AffQ} {v:Value} {f:AffQ} (h:FormV w v f) (hL:LSt w gG n U) (hs:Stp gG w w'):FormV w' v f:=by
 obtain ⟨p0,p1,p2,p3,e,k⟩:=h.ex;exact ⟨p0,p1,p2,p3,e,k.stp hL hs⟩
structure FRow (gG:Nat) (w:World) (a:Option Addr) (L:List AffQ):Prop where
 at':FormsAt w a L
 fr:L=[] ∨ ∀ p,a=some p->Fre gG w p.block
theorem FRow.stp {w w':World} {gG n:Nat} {U:List AffQ} {a:Option Addr} {L:List AffQ} (h:FRow gG w a L) (hL:LSt w gG n U) (hs:Stp gG w w'):FRow gG w' a L:=by
 rcases h.fr with rfl | hf
 ·exact ⟨Row4.nil _ _,.inl rfl⟩
 refine ⟨⟨h.at'.len,?_⟩,.inr fun p e=>(hf p e).stp hs⟩
 rcases h.at'.row with rfl | ⟨b,off,rfl,hb,hc⟩
 ·exact .inl rfl
 ·have hf:=hf _ rfl
  refine .inr ⟨b,off,rfl,Nat.lt_of_lt_of_le hb hs.size,fun j x hj=>?_⟩
  obtain ⟨p0,p1,p2,p3,h0,h1,h2,h3,h4⟩:=hc j x hj;exact ⟨p0,p1,p2,p3,(hf.cell hs).trans h0,(hf.cell hs).trans h1,(hf.cell hs).trans h2,(hf.cell hs).trans h3,h4.stp hL hs⟩
theorem FRow.drop {w:World} {gG b off:Nat} {L:List AffQ} (h:FRow gG w (some ⟨b,off,none⟩) L) (k:Nat):FRow gG w (some ⟨b,off+k * 4,none⟩) (L.drop k):=
 ⟨h.at'.drop k,h.fr.imp (by rintro rfl;simp) fun hf p e=>by cases e;exact hf ⟨b,off,none⟩ rfl⟩
theorem FRow.take {w:World} {gG:Nat} {a:Option Addr} {L:List AffQ} (h:FRow gG w a L) (k:Nat):FRow gG w a (L.take k):=⟨h.at'.take k,h.fr.imp (by rintro rfl;simp) id⟩
structure FOwn (gG:Nat) (w:World) (base:Nat) (v:Value) (L:List AffQ):Prop where
 own:OwnF w base v L
 fr:∀ b,v.ownBlock=some b->Fre gG w b
theorem FOwn.nil (gG:Nat) (w:World) (base:Nat):FOwn gG w base (.slice none 0 0) []:=⟨Own4.nil _ _,fun b e=>by cases e⟩
theorem FOwn.stp {w w':World} {gG n base:Nat} {U:List AffQ} {v:Value} {L:List AffQ} (h:FOwn gG w base v L) (hL:LSt w gG n U) (hs:Stp gG w w'):FOwn gG w' base v L:=by
 refine ⟨⟨?_,?_⟩,fun b e=>(h.fr b e).stp hs⟩
 ·obtain ⟨xs,ho,he⟩:=h.own.ex
  refine ⟨xs,⟨ho.1,?_⟩,fun j x hj=>?_⟩
  ·rcases ho.2 with k | ⟨g,cap,cur,rfl,k1,k2,k3⟩
   ·exact .inl k
   ·exact .inr ⟨g,cap,cur,rfl,k1,((h.fr g rfl).block hs).trans k2,k3⟩
  ·obtain ⟨p0,p1,p2,p3,h0,h1,h2,h3,h4⟩:=he j x hj;exact ⟨p0,p1,p2,p3,h0,h1,h2,h3,h4.stp hL hs⟩
 ·intro g e o x hx;rw [(h.fr g e).cell hs] at hx;exact h.own.al g e o x hx
theorem FOwn.of {w w':World} {gG n:Nat} {U:List AffQ} {v:Value} {L:List AffQ} (h:OwnF w' w.heap.size v L) (hL:LSt w gG n U) (hb:Below w.heap.size w w'):FOwn gG w' w.heap.size v L:=
 ⟨h,fun b e=>hL.fresh hb (h.lt e).1 (h.lt e).2⟩
theorem FOwn.read {w:World} {gG base n c:Nat} {a:Option Addr} {L:List AffQ} (h:FOwn gG w base (.slice a n c) L) (hl:L.length<=9223372036854775807):FRow gG w a L:=
 ⟨h.own.read hl,.inr fun p e=>by subst e;exact h.fr _ rfl⟩
theorem LoBox.fre {w:World} {gG gL n:Nat} {U:List AffQ} {S:LowV} (h:LoBox w gL S) (hL:LSt w gG n U):Fre gG w gL:=hL.fre h.f0 (.inr ⟨_,h.f1,fun _ _ _ e=>by cases e⟩) h.lt
theorem LoBox.stp {w w':World} {gG gL n:Nat} {U:List AffQ} {S:LowV} (h:LoBox w gL S) (hL:LSt w gG n U) (hs:Stp gG w w'):LoBox w' gL S:=by
 have hf:=h.fre hL;obtain ⟨f0,f1,f2,f3,f4,f5,f6,f7,f8,f9,f10,f11,f12,ff,lt⟩:=h;have k:=fun o=>hf.cell (o:=o) hs
 exact ⟨(k 0).trans f0,(k 1).trans f1,(k 2).trans f2,(k 3).trans f3,(k 4).trans f4,(k 5).trans f5,(k 6).trans f6,(k 7).trans f7,(k 8).trans f8,(k 9).trans f9,(k 10).trans f10,(k 11).trans f11,(k 12).trans f12,
  fun i=>(hf.frozen hs).trans (ff i),Nat.lt_of_lt_of_le lt hs.size⟩
theorem Intss.stp {w w':World} {gG:Nat} {a:Option Addr} {L:List (List Int)} (h:Intss w (Fre gG w) a L) (hs:Stp gG w w'):Intss w' (Fre gG w') a L:=
 (h.frame hs.size fun b hf _=>hf.block hs).mono fun b _ hf=>hf.stp hs
theorem LSt.unit {w w1:World} {gG n:Nat} {U:List AffQ} {f:AffQ} {a b:Option Addr} {c k:Nat} (h:LSt w gG n U) (h1:w.cell? ⟨gG,1,none⟩=some (.slice a U.length c)) (ho:OwnF w1 (gG+1) (.slice b (U.length+1) k) (U++[f]))
  (hg:w.grownBy w1 (Value.slice a U.length c).ownBlock) (hn:Next w (.slice a U.length c) (.slice b (U.length+1) k)):
  LSt (w1.setCell ⟨gG,1,none⟩ (.slice b (U.length+1) k)) gG n (U++[f])/\Stp gG w (w1.setCell ⟨gG,1,none⟩ (.slice b (U.length+1) k)):=by
 have hub:ub w gG=(Value.slice a U.length c).ownBlock:=by unfold ub;rw [h1]
 have hne:some gG ≠ (Value.slice a U.length c).ownBlock:=fun e=>by
  rw [<- hub] at e;have:=h.ub_ge e.symm;omega
 have lt1:gG < w1.heap.size:=Nat.lt_of_lt_of_le h.lt hg.size;have hblk:=hg.block gG h.lt hne;have kc:∀ o,w1.cell? ⟨gG,o,none⟩=w.cell? ⟨gG,o,none⟩:=fun o=>World.cell?_of_block hblk
 have kf:∀ o,w1.frozen? ⟨gG,o,none⟩=w.frozen? ⟨gG,o,none⟩:=fun o=>World.frozen?_of_block hblk
 have c1:(w1.setCell ⟨gG,1,none⟩ (.slice b (U.length+1) k)).cell? ⟨gG,1,none⟩=some (.slice b (U.length+1) k):=World.cell?_setCell_same _ _ _ ((kc 1).trans h1);have co:∀ o,o ≠ 1->(w1.setCell ⟨gG,1,none⟩ (.slice b (U.length+1) k)).cell? ⟨gG,o,none⟩=w.cell? ⟨gG,o,none⟩:=fun o ho=>(World.cell?_setCell_other _ _ _ _ (fun e=>ho (by cases e;rfl))).trans (kc o)
 have hgb:GBk w1 gG:=⟨⟨_,(kc 0).trans h.g0⟩,⟨_,_,_,(kc 1).trans h1⟩,⟨_,_,_,(kc 2).trans h.g2⟩,fun o ho=>(kc o).trans (h.g3 o ho)⟩
 have hoff:∀ q,q ≠ gG->(w1.setCell ⟨gG,1,none⟩ (.slice b (U.length+1) k)).heap[q]? =w1.heap[q]? :=fun q hq=>Below.heap_setCell _ _ _ _ hq
 have hr0:OwnF (w1.setCell ⟨gG,1,none⟩ (.slice b (U.length+1) k)) (gG+1) (.slice b (U++[f]).length k) (U++[f]):=by
  have e:(U++[f]).length=U.length+1:=by simp
  rw [e]
  refine ⟨?_,?_⟩
  ·obtain ⟨xs,hx,he⟩:=ho.ex
   refine ⟨xs,⟨hx.1,?_⟩,fun j x hj=>?_⟩
   ·rcases hx.2 with k | ⟨g,cap,cur,e1,k1,k2,k3⟩
    ·exact .inl k
    ·exact .inr ⟨g,cap,cur,e1,k1,(hoff g (by omega)).trans k2,k3⟩
   ·obtain ⟨p0,p1,p2,p3,h0,h1',h2,h3,h4⟩:=he j x hj;exact ⟨p0,p1,p2,p3,h0,h1',h2,h3,h4.gset hgb⟩
  ·intro g e o x hx;have:=ho.lt e;rw [cell_other (by show g ≠ gG;omega)] at hx;exact ho.al g e o x hx
 refine ⟨⟨(co 0 (by omega)).trans h.g0,⟨b,k,by rw [c1];simp,hr0⟩,(co 2 (by omega)).trans h.g2,fun o ho=>(co o (by omega)).trans (h.g3 o ho),fun o=>?_,by simpa using lt1⟩,?_⟩
 ·simp only [World.frozen?_setCell];exact (kf o).trans (h.fz o)
 ·refine ⟨hg.os,hg.tape,hg.output,by simpa using hg.size,fun q hq hq1 hq2=>(hoff q hq1).trans (hg.block q hq (fun e=>hq2 (by rw [hub];exact e.symm))),?_⟩
  have e:ub (w1.setCell ⟨gG,1,none⟩ (.slice b (U.length+1) k)) gG=(Value.slice b (U.length+1) k).ownBlock:=by unfold ub;rw [c1]
  rw [e,hub];exact hn
theorem Stp.set {gG b o:Nat} {w W:World} {u:Value} (h:Stp gG w W) (hb:w.heap.size<=b) (hne:b ≠ gG):Stp gG w (W.setCell ⟨b,o,none⟩ u):=by
 have e:ub (W.setCell ⟨b,o,none⟩ u) gG=ub W gG:=by
  unfold ub;rw [cell_other (by exact fun e=>hne e.symm)]
 refine ⟨h.os,h.tape,h.output,by simpa using h.size,fun k hk h1 h2=>?_,by rw [e];exact h.next⟩
 exact (Below.heap_setCell _ _ _ _ (show k ≠ b by omega)).trans (h.block k hk h1 h2)
theorem LSt.set {gG n b o:Nat} {U:List AffQ} {w:World} {u:Value} (h:LSt w gG n U) (hf:Fre gG w b) (hb:AllB isBS w b):LSt (w.setCell ⟨b,o,none⟩ u) gG n U:=by
 have hne:gG ≠ b:=fun e=>hf.ne e.symm
 obtain ⟨g0,⟨a,c,h1,ho⟩,g2,g3,fz,lt⟩:=h;have k:∀ q,(w.setCell ⟨b,o,none⟩ u).cell? ⟨gG,q,none⟩=w.cell? ⟨gG,q,none⟩:=fun q=>cell_other (by exact hne)
 have hub:∀ g,(Value.slice a U.length c).ownBlock=some g->g ≠ b:=fun g e e2=>hf.nu (by unfold ub;rw [h1];subst e2;exact e)
 refine ⟨(k 0).trans g0,⟨a,c,(k 1).trans h1,⟨?_,?_⟩⟩,(k 2).trans g2,fun q hq=>(k q).trans (g3 q hq),fun q=>by simp only [World.frozen?_setCell];exact fz q,by simpa using lt⟩
 ·obtain ⟨xs,hx,he⟩:=ho.ex
  refine ⟨xs,⟨hx.1,?_⟩,fun j x hj=>?_⟩
  ·rcases hx.2 with k | ⟨g,cap,cur,e1,k1,k2,k3⟩
   ·exact .inl k
   ·exact .inr ⟨g,cap,cur,e1,k1,(Below.heap_setCell _ _ _ _ (hub g (by rw [e1];rfl))).trans k2,k3⟩
  ·obtain ⟨p0,p1,p2,p3,h0,h1',h2,h3,h4⟩:=he j x hj;exact ⟨p0,p1,p2,p3,h0,h1',h2,h3,h4.setCell hb o u⟩
 ·intro g e q x hx;rw [cell_other (by exact hub g e)] at hx;exact ho.al g e q x hx
theorem Fre.set {gG b c o:Nat} {w:World} {u:Value} (h:Fre gG w b) (hne:c ≠ gG):Fre gG (w.setCell ⟨c,o,none⟩ u) b:=by
 refine ⟨by simpa using h.lt,h.ne,?_⟩
 have e:ub (w.setCell ⟨c,o,none⟩ u) gG=ub w gG:=by
  unfold ub;rw [cell_other (by exact fun e=>hne e.symm)]
 rw [e];exact h.nu
theorem LSt.store4 {gG n b:Nat} {U:List AffQ} {w:World} {p0 p1 p2 p3:Value} (h:LSt w gG n U) (hf:Fre gG w b) (hb:AllB isBS w b) (hp:isBS p0=true/\isBS p1=true/\isBS p2=true/\isBS p3=true):
  LSt ((((w.setCell ⟨b,0,none⟩ p0).setCell ⟨b,1,none⟩ p1).setCell ⟨b,2,none⟩ p2).setCell ⟨b,3,none⟩ p3) gG n U:=
 (((h.set (o:=0) (u:=p0) hf hb).set (hf.set hf.ne) (hb.setCell 0 p0 hp.1)).set ((hf.set hf.ne).set hf.ne) ((hb.setCell 0 p0 hp.1).setCell 1 p1 hp.2.1)).set (((hf.set hf.ne).set hf.ne).set hf.ne) (((hb.setCell 0 p0 hp.1).setCell 1 p1 hp.2.1).setCell 2 p2 hp.2.2.1)
theorem Stp.store4 {gG b:Nat} {w W:World} {p0 p1 p2 p3:Value} (h:Stp gG w W) (hb:w.heap.size<=b) (hne:b ≠ gG):
  Stp gG w ((((W.setCell ⟨b,0,none⟩ p0).setCell ⟨b,1,none⟩ p1).setCell ⟨b,2,none⟩ p2).setCell ⟨b,3,none⟩ p3):=(((h.set hb hne).set hb hne).set hb hne).set hb hne
theorem LSt.unit_at {w w1:World} {gG n:Nat} {U:List AffQ} {a:Option Addr} {c:Nat} (h:LSt w gG n U) (h1:w.cell? ⟨gG,1,none⟩=some (.slice a U.length c)) (hg:w.grownBy w1 (Value.slice a U.length c).ownBlock):
  w1.cell? ⟨gG,1,none⟩=some (.slice a U.length c)/\w1.frozen? ⟨gG,1,none⟩=false/\gG < w1.heap.size:=by
 have hub:ub w gG=(Value.slice a U.length c).ownBlock:=by unfold ub;rw [h1]
 have hne:some gG ≠ (Value.slice a U.length c).ownBlock:=fun e=>by
  rw [<- hub] at e;have:=h.ub_ge e.symm;omega
 have hblk:=hg.block gG h.lt hne;exact ⟨(World.cell?_of_block hblk).trans h1,(World.frozen?_of_block hblk).trans (h.fz 1),Nat.lt_of_lt_of_le h.lt hg.size⟩
def UnAf (gG n:Nat) (w:World) (U:List AffQ) (f:AffQ) (e:Ending) (w':World):Prop:=∃ v,e=.returned v/\FormV w' v f/\LSt w' gG n U/\Stp gG w w'
theorem UnAf.ret {gG n g:Nat} {w W:World} {U:List AffQ} {f:AffQ} {p0 p1 p2 p3:Value} (h:FormV W (.agg #[p0,p1,p2,p3]) f) (hL:LSt W gG n U) (hg:AllB isBS W g) (hf:Fre gG W g) (hs:Stp gG w W) (hge:w.heap.size<=g):
  UnAf gG n w U f (.returned (.agg #[p0,p1,p2,p3])) ((((W.setCell ⟨g,0,none⟩ p0).setCell ⟨g,1,none⟩ p1).setCell ⟨g,2,none⟩ p2).setCell ⟨g,3,none⟩ p3):=by
 have hp:isBS p0=true/\isBS p1=true/\isBS p2=true/\isBS p3=true:=h.fp.bs;exact ⟨_,rfl,h.store4 hg hp,hL.store4 hf hg hp,hs.store4 hge hf.ne⟩
theorem RetAf.un {gG n:Nat} {w w':World} {U:List AffQ} {f:AffQ} {e:Ending} (h:RetAf w f e w') (hL:LSt w gG n U):UnAf gG n w U f e w':=by
 obtain ⟨v,he,hv,hb⟩:=h;exact ⟨v,he,hv,hL.below hb,Stp.of hb hL.lt⟩
theorem ABox.stp {w w':World} {gG n g:Nat} {U:List AffQ} {p0 p1 p2 p3:Value} {f:AffQ} (h:ABox w g p0 p1 p2 p3 f) (hL:LSt w gG n U) (hs:Stp gG w w') (hf:Fre gG w g):ABox w' g p0 p1 p2 p3 f:=by
 obtain ⟨⟨c0,c1,c2,c3,fz,lt⟩,al,fm⟩:=h;exact ⟨⟨(hf.cell hs).trans c0,(hf.cell hs).trans c1,(hf.cell hs).trans c2,(hf.cell hs).trans c3,by first | exact (hf.frozen hs).trans fz | exact fun i=>(hf.frozen hs).trans (fz i),Nat.lt_of_lt_of_le lt hs.size⟩,fun o x e=>al o x (by rw [hf.cell hs] at e;exact e),fm.stp hL hs⟩
theorem lUnit {w:World} {gG n:Nat} {U:List AffQ} {v:Value} {f:AffQ} (hL:LSt w gG n U) (hv:FormV w v f) (hn:n<=1000000) (hU:U.length<=1000000):
  Calls Tryz.prog 33 #[v,.pointer (some ⟨gG,0,none⟩)] w (UnAf gG n w (U++[f]) (varA (n+U.length))):=by
 obtain ⟨p0,p1,p2,p3,rfl,hF⟩:=hv.ex;have x2:=ABox.alloc hF 53;have b2:=blA w (.cells #[p0,p1,p2,p3] 53);have s2:(w.alloc (.cells #[p0,p1,p2,p3] 53)).heap.size=w.heap.size+1:=by simp
 obtain ⟨W2,hW2⟩:∃ W2,W2=w.alloc (.cells #[p0,p1,p2,p3] 53):=⟨_,rfl⟩
 rw [<- hW2] at x2 b2 s2;have x3:=ABox.alloc (zer_form W2) 53;have b3:=blA W2 (.cells #[.slice none 0 0,.bool false,.slice none 0 0,.slice none 0 0] 53);have s3:(W2.alloc (.cells #[.slice none 0 0,.bool false,.slice none 0 0,.slice none 0 0] 53)).heap.size=w.heap.size+2:=by simp [s2]
 obtain ⟨W3,hW3⟩:∃ W3,W3=W2.alloc (.cells #[.slice none 0 0,.bool false,.slice none 0 0,.slice none 0 0] 53):=⟨_,rfl⟩
 rw [<- hW3] at x3 b3 s3;rw [s2] at x3;have x22:=x2.below b3;have b3':Below w.heap.size w W3:=b2.trans (b3.mono b2.size);obtain ⟨p0',p1',p2',p3',hp⟩:∃ a n c b an nn cn ad nd cd,p0=.slice a n c/\p1=.bool b/\p2=.slice an nn cn/\p3=.slice ad nd cd:=hF.spell;obtain ⟨yan,ynn,ycn,yad,ynd,ycd,rfl,rfl,rfl,rfl⟩:=hp;have x4:=One4.form x22.fm 53;obtain ⟨HL3,HX2,HX3,HB3,HS3,HW⟩:=hd6 (hL.below b3') x22 x3 b3' s3 hW3;rw [hW2] at HW;have HO4:=hid x4;obtain ⟨a,c,hc1,ho⟩:=HL3.out.g1;have b4:=blA W3 (.cells #[.slice p0' p1' p2',.bool p3',.slice yan ynn ycn,.slice yad ynd ycd] 53);obtain ⟨HL4,HB4,HOw,HC1⟩:=hd4 (HL3.out.below b4) b4 (ho.below formK b4) ((b4.cell (p:=⟨gG,1,none⟩) HL3.out.lt).trans hc1);clear x2 x22 x3 b2 b3 s2 s3 hW2 hW3 hF hv x4 b3' b4 ho
 go_enter Tryz.func33,Tryz.ntmps33
 go_upto_region 1 with fail
 rw [<- HW.out];clear HW;obtain ⟨kx0,kx1,kx2,kx3,kf,klt⟩:=HX2.out.bx;have gfz:=HL3.out.fz 1;have glt:=HL3.out.lt;obtain ⟨HGb,HF3⟩:=hd2 (show gG+1<=(W3.alloc (.cells #[.slice p0' p1' p2',.bool p3',.slice yan ynn ycn,.slice yad ynd ycd] 53)).heap.size from by have:=HL4.out.lt;omega) (LSt.fresh (b:=w.heap.size+1) hL (w:=w) (w':=W3.alloc (.cells #[.slice p0' p1' p2',.bool p3',.slice yan ynn ycn,.slice yad ynd ycd] 53)) (HB3.out.trans (HB4.out.mono HB3.out.size)) (by omega) (by have:=HS3.out;have:=HB4.out.size;omega))
 go_upto_region 2 with (at_builtin;refine wpList_app4 (T:=53) formK (.slice none 0 0) (.bool false) (.slice none 0 0) (.slice none 0 0) 80 (by intro u hu;simp at hu;rcases hu with rfl | rfl | rfl | rfl <;> rfl) rfl (.tmp 5) (.tmp 7) 28 rfl (gG+1) Tryz.underlying28 (by kernel_rfl) (by omega) (.slice a U.length c) U.length U rfl rfl HOw.out _ f HO4.out rfl (by omega) HGb.out ?_;intro b3 k3 w3 hown hk3 hg hbe hnx;have HU:=hid (HL4.out.unit HC1.out hown hg hnx);obtain ⟨q1,q2,q3⟩:=HL4.out.unit_at HC1.out hg;clear hown hg hbe hnx)
 generalize w3.setCell ⟨gG,1,none⟩ (.slice b3 (U.length+1) k3)=w4 at *;obtain ⟨HSt,HLu,HXt,HFt⟩:=hd4 ((Stp.of (HB3.out.trans (HB4.out.mono HB3.out.size)) hL.lt).trans HU.out.2) HU.out.1 ((HX3.out.below HB4.out).stp HL4.out HU.out.2 HF3.out) (HF3.out.stp HU.out.2);clear kx0 kx1 kx2 kx3 kf klt gfz glt q1 q2 q3 HU HF3 HO4 HOw HC1 HL4 HX2 HX3 hc1 HGb HB4;obtain ⟨a4,c4,hc4,ho4⟩:=HLu.out.g1;rw [show (U++[f]).length=U.length+1 by simp] at hc4;have g0:=HLu.out.g0;have HV:=hid (lVariable w4 (n+U.length));clear ho4
 go_wp2_with fail
 have e:((n:Int)+((U.length:Int)+1) - 1)=((n+U.length:Nat):Int):=by omega
 have e2:IntKind.i64.wrap ((n+U.length:Nat):Int)=((n+U.length:Nat):Int):=IntWalk.i64_in _ (by omega);rw [e]
 refine HV.out.mono ?_
 rintro e w5 ⟨v5,rfl,hv5,hb5⟩;obtain ⟨z0,z1,z2,z3,zb,zan,znn,zcn,zad,znd,rfl⟩:=hv5.spell;obtain ⟨HL5,HS5,HX5,HF5⟩:=hd4 (HLu.out.below hb5) (HSt.out.trans (Stp.of hb5 HLu.out.lt)) (HXt.out.stp HLu.out (Stp.of hb5 HLu.out.lt) HFt.out) (HFt.out.stp (Stp.of hb5 HLu.out.lt));have HO:=hid (UnAf.ret (w:=w) hv5 HL5.out HX5.out.al HF5.out HS5.out (by omega));obtain ⟨r0,r1,r2,r3,rf,rlt⟩:=HX5.out.bx;clear hv5 hb5 HV HL5 HS5 HX5 HF5 HLu HSt HXt HFt;generalize varA (n+U.length)=R at *;go_wp2;exact bodyPost_ret (by simp [results,Tryz.results33,go_sem,r0,r1,r2,r3,rlt,Nat.ne_of_lt rlt]) rfl HO.out
inductive Su where
 | val (x:Value)
 | frm (f:AffQ)
 | onf (f:AffQ)
 | sl1 (x:Value)
def GU (gG:Nat) (L:List Su) (i:Nat) (v:Value) (w:World):Prop:=
 match L[i]? with
 | some (.val x)=>v=x
 | some (.frm f)=>FormV w v f
 | some (.onf f)=>One4 FormP w v f/\∀ b,v.ownBlock=some b->Fre gG w b
 | some (.sl1 x)=>∃ g,v=.slice (some ⟨g,0,none⟩) 1 1/\Fre gG w g/\w.cell? ⟨g,0,none⟩=some x
 | none=>True
theorem One4.stp {w w':World} {gG n:Nat} {U:List AffQ} {v:Value} {f:AffQ} (h:One4 FormP w v f) (hf:∀ b,v.ownBlock=some b->Fre gG w b) (hL:LSt w gG n U) (hs:Stp gG w w'):One4 FormP w' v f:=by
 obtain ⟨g,p0,p1,p2,p3,rfl,hg,c0,c1,c2,c3,hp⟩:=h.ex;have hf:=hf g rfl;exact ⟨g,p0,p1,p2,p3,rfl,Nat.lt_of_lt_of_le hg hs.size,(hf.cell hs).trans c0,(hf.cell hs).trans c1,(hf.cell hs).trans c2,(hf.cell hs).trans c3,hp.stp hL hs⟩
theorem GU_stp {gG n:Nat} {U:List AffQ} {L:List Su} {i:Nat} {v:Value} {w w':World} (h:GU gG L i v w) (hL:LSt w gG n U) (hs:Stp gG w w'):GU gG L i v w':=by
 unfold GU at h ⊢
 split
 ·rename_i x hx;rw [hx] at h;exact h
 ·rename_i x hx;rw [hx] at h;exact FormV.stp h hL hs
 ·rename_i x hx;rw [hx] at h;exact ⟨One4.stp h.1 h.2 hL hs,fun b e=>(h.2 b e).stp hs⟩
 ·rename_i x hx;rw [hx] at h;obtain ⟨g,e,k1,k2⟩:=h;exact ⟨g,e,k1.stp hs,(k1.cell hs).trans k2⟩
 ·trivial
structure AllU (gG n:Nat) (W1:World) (U U':List AffQ) (j:Nat) (L:List Su) (d:Nat->Bool) (g:Nat->Value) (W:World):Prop where
 st:Stp gG W1 W
 un:LSt W gG n (if d j=true then U' else U)
 all:∀ i,d i=true->GU gG L i (g i) W
theorem AllU.start {gG n:Nat} {W1:World} {U U':List AffQ} {j:Nat} {L:List Su} (h:LSt W1 gG n U) (g:Nat->Value):AllU gG n W1 U U' j L (fun _=>false) g W1.drew:=
 ⟨Stp.of (Below.refl _ _).drew h.lt,by simpa using h.below (Below.refl _ _).drew,fun _ h=>by cases h⟩
theorem mark_ne {d:Nat->Bool} {i j:Nat} (h:j ≠ i):mark d i j=d j:=by unfold mark;rw [if_neg h]
theorem AllU.step {gG n:Nat} {W1:World} {U U':List AffQ} {j:Nat} {L:List Su} {d:Nat->Bool} {g:Nat->Value} {W W':World} {i:Nat} {v:Value} (h:AllU gG n W1 U U' j L d g W) (hi:j ≠ i) (hb:Below W.heap.size W W') (hv:GU gG L i v W'):AllU gG n W1 U U' j L (mark d i) (upd g i v) W':=by
 have hs:=Stp.of hb h.un.lt
 refine ⟨h.st.trans hs,by rw [mark_ne hi];exact h.un.below hb,fun k hk=>?_⟩
 unfold upd
 by_cases e:k=i
 ·subst e;rw [if_pos rfl];exact hv
 ·rw [if_neg e];rw [mark_ne e] at hk;exact GU_stp (h.all k hk) h.un hs
theorem AllU.here {gG n:Nat} {W1:World} {U U':List AffQ} {j:Nat} {L:List Su} {d:Nat->Bool} {g:Nat->Value} {W:World} {i:Nat} {v:Value} (h:AllU gG n W1 U U' j L d g W) (hi:j ≠ i) (hv:GU gG L i v W):AllU gG n W1 U U' j L (mark d i) (upd g i v) W:=h.step hi (Below.refl _ _) hv
theorem AllU.unit {gG n:Nat} {W1:World} {U U':List AffQ} {j:Nat} {L:List Su} {d:Nat->Bool} {g:Nat->Value} {W W':World} {v:Value} (h:AllU gG n W1 U U' j L d g W) (hL:LSt W' gG n U') (hs:Stp gG W W') (hv:GU gG L j v W'):AllU gG n W1 U U' j L (mark d j) (upd g j v) W':=by
 refine ⟨h.st.trans hs,by rw [if_pos (by unfold mark;simp)];exact hL,fun k hk=>?_⟩
 unfold upd
 by_cases e:k=j
 ·subst e;rw [if_pos rfl];exact hv
 ·rw [if_neg e];rw [mark_ne e] at hk;exact GU_stp (h.all k hk) h.un hs
theorem AllU.old {gG n:Nat} {W1:World} {U U':List AffQ} {j:Nat} {L:List Su} {d:Nat->Bool} {g:Nat->Value} {W:World} (h:AllU gG n W1 U U' j L d g W) (hd:d j=false):LSt W gG n U:=by
 have:=h.un
 rwa [if_neg (by rw [hd];simp)] at this
theorem AllU.new {gG n:Nat} {W1:World} {U U':List AffQ} {j:Nat} {L:List Su} {d:Nat->Bool} {g:Nat->Value} {W:World} (h:AllU gG n W1 U U' j L d g W) (hd:d j=true):LSt W gG n U':=by
 have:=h.un
 rwa [if_pos hd] at this
theorem AllU.same {gG n:Nat} {W1:World} {U:List AffQ} {j:Nat} {L:List Su} {d:Nat->Bool} {g:Nat->Value} {W:World} (h:AllU gG n W1 U U j L d g W):LSt W gG n U:=by
 have:=h.un
 rwa [ite_self] at this
theorem rFrac (w:World) (a b:Int) (a1: -9223372036854775808<=a) (a2:a<=9223372036854775807) (b1: -9223372036854775808<=b) (b2:b<=9223372036854775807) (hb0:b ≠ 0):
  Calls Tryz.prog 92 #[.int .i64 a,.int .i64 b] w (RetRE w (ratL ((a:Rat) / (b:Rat))) 0):=by
 have hR:=Box3.alloc w (.bool false) (.slice none 0 0) (.slice none 0 0) 51;have hN:=NoInt.alloc w #[.bool false,.slice none 0 0,.slice none 0 0] 51 (by simp);have hB0:=blA w (zerO 51);obtain ⟨HO1,HO2,HR,HN,HB⟩:=hd5 (fun wv=>iOf wv a a1 a2) (fun wv=>iOf wv b b1 b2) hR hN hB0;have HQ:Hid (∀ (g1:Bool) (x1:Nat) (g2:Bool) (x2:Nat),sgn g1 x1=a->sgn g2 x2=b->mkRat (sgn (g1 != g2) x1) x2=(a:Rat) / (b:Rat)):=fun g1 x1 g2 x2 h1 h2=>by
  have h:=divQ g1 g2 x1 x2 1 1;rw [Nat.mul_one,Nat.one_mul,h1,h2,Rat.mkRat_one,Rat.mkRat_one] at h;exact h
 have la:=limbs_len64 (n:=a.natAbs) (by omega);have lb:=limbs_len64 (n:=b.natAbs) (by omega);have HB0:=hid hb0;clear hR hN hB0 hb0
 go_enter Tryz.func92,Tryz.ntmps92
 go_wp2_with fail
 refine (HO1.out _).mono ?_
 rintro e w1 ⟨v1,g1,x1,rfl,i1,e1,hb1⟩;obtain ⟨HE1,I1,HRb1,HNb1⟩:=hd4 e1 i1 (HR.out.below hb1) (HN.out.below hb1 HR.out.lt);have HB1:=htr HB hb1;clear HO1 HR HN HB i1 hb1 e1
 go_wp2_with fail
 refine (HO2.out _).mono ?_
 rintro e w2 ⟨v2,g2,x2,rfl,i2,e2,hb2⟩;have hx2:0 < x2:=by
  rcases Nat.eq_zero_or_pos x2 with h | h
  ·rw [h] at e2;exfalso;refine HB0.out ?_;rw [<- e2];cases g2 <;> rfl
  ·exact h
 have hM:=rMake (I1.out.below hb2) i2 hx2 (by omega) (by omega);rw [HQ.out g1 x1 g2 x2 HE1.out e2] at hM;obtain ⟨HM,HR2,HN2⟩:=hd3 hM (HRb1.out.below hb2) (HNb1.out.below hb2 HRb1.out.lt);have HB2:=htr HB1 hb2;clear HO2 HRb1 HNb1 HB1 i2 hb2 hM I1 e2 hx2 HE1
 go_wp2_with fail
 refine HM.out.mono ?_
 rintro e w5 ⟨v5,rfl,⟨bn',bd',m1,m2,rfl,k3,k4,k5,k6⟩,k2⟩;obtain ⟨r0,r1,r2,rf,rlt⟩:=HR2.out.below k2;obtain ⟨hN5,K5,K6⟩:=hd3 (HN2.out.below k2 HR2.out.lt) k5 k6;have hB5:=htr HB2 k2;clear HM k5 k6 k2;generalize ratL ((a:Rat) / (b:Rat))=R at *;go_wp2;exact bodyPost_ret (v:=.tuple #[.agg #[.bool R.neg,.slice bn' R.num.length m1,.slice bd' R.den.length m2],.int .i64 0]) (by simp [results,Tryz.results92,go_sem,r0,r1,r2]) rfl ⟨_,rfl,RatV.store hN5.out k3 k4 K5.out K6.out,below_store3 hB5.out (Nat.le_refl _) _ _ _⟩
structure MnF (w wr:World) (f:AffQ):Prop where
 ac:AcF w wr (w.heap.size+1) f
 rb:Box4 wr w.heap.size (.slice none 0 0) (.bool false) (.slice none 0 0) (.slice none 0 0)
 ra:AllB isBS wr w.heap.size
theorem MnF.below {w wr W:World} {f:AffQ} (h:MnF w wr f) (hb:Below wr.heap.size wr W):MnF w W f:=⟨h.ac.below hb,h.rb.below hb,h.ra.below hb h.rb.lt⟩
theorem MnF.step {w wr W:World} {f k:AffQ} {q0 q1 q2 q3:Value} (h:MnF w wr f) (hb:Below wr.heap.size wr W) (hk:FormP W q0 q1 q2 q3 k):
  MnF w ((((W.setCell ⟨w.heap.size+1,0,none⟩ q0).setCell ⟨w.heap.size+1,1,none⟩ q1).setCell ⟨w.heap.size+1,2,none⟩ q2).setCell ⟨w.heap.size+1,3,none⟩ q3) k:=by
 have hne:w.heap.size+1 ≠ w.heap.size:=by omega
 have h2:=h.below hb;exact ⟨h.ac.step hb hk,(((h2.rb.far hne 0 q0).far hne 1 q1).far hne 2 q2).far hne 3 q3,(((h2.ra.far hne 0 q0).far hne 1 q1).far hne 2 q2).far hne 3 q3⟩
theorem MnF.start (w:World) (T:Nat):MnF w ((w.alloc (.cells #[.slice none 0 0,.bool false,.slice none 0 0,.slice none 0 0] T)).alloc (.cells #[.slice none 0 0,.bool false,.slice none 0 0,.slice none 0 0] T)) zerA:=by
 have x1:=ABox.alloc (zer_form w) T;have b1:=blA w (.cells #[.slice none 0 0,.bool false,.slice none 0 0,.slice none 0 0] T);have s1:(w.alloc (.cells #[.slice none 0 0,.bool false,.slice none 0 0,.slice none 0 0] T)).heap.size=w.heap.size+1:=by simp
 obtain ⟨W1,hW1⟩:∃ W1,W1=w.alloc (.cells #[.slice none 0 0,.bool false,.slice none 0 0,.slice none 0 0] T):=⟨_,rfl⟩
 rw [<- hW1] at x1 b1 s1 ⊢;have x2:=ABox.alloc (zer_form W1) T;have b2:=blA W1 (.cells #[.slice none 0 0,.bool false,.slice none 0 0,.slice none 0 0] T);rw [s1] at x2;exact ⟨⟨⟨_,_,_,_,x2⟩,b1.trans (b2.mono b1.size),by omega⟩,x1.bx.below b2,x1.al.below b2 x1.bx.lt⟩
theorem lMean {w:World} {a:Option Addr} {c n D B N:Nat} {l:List AffQ} (hX:FormsAt w a l) (hl:l.length=n) (h1:1<=n) (hn:n<=1000000) (bl:BdFs D B N l) (hD:0 < D) (hP:Pay (n * D) (2 * (n * B)+B+1)) (hN:N<=500000):
  Calls Tryz.prog 59 #[.slice a n c] w (RetAf w (meanF l)):=by
 obtain ⟨PP,hPE,hPP⟩:∃ PP:Prop,PP=Pay (n * D) (2 * (n * B)+B+1)/\PP:=⟨_,rfl,hP⟩
 obtain ⟨HPE,HPP,HX,HLn,HBl,HS0⟩:=hd6 hPE hPP hX hl bl (MnF.start w 53);have hnD:D<=n * D:=Nat.le_mul_of_pos_left D (by omega);have HnD:=hid hnD;clear hX hl bl hP hPE hPP hnD
 go_enter Tryz.func59,Tryz.ntmps59
 go_upto_region 2 with fail
 generalize (w.alloc (.cells #[.slice none 0 0,.bool false,.slice none 0 0,.slice none 0 0] 53)).alloc (.cells #[.slice none 0 0,.bool false,.slice none 0 0,.slice none 0 0] 53)=W0 at *;go_wp2
 go_loopw [10] (fun i wi=>∃ k:Nat,k<=n/\i=.int .i64 (k:Int)/\Hid (MnF w wi (plusF l k))) (fun i _=>n - (intOf i).toNat)
 case atStart=>exact ⟨0,Nat.zero_le _,rfl,HS0.out⟩
 case round=>
  obtain ⟨k,hk,rfl,HI⟩:=hrel
  by_cases hlk:k < n
  ·have hbi:Below w.heap.size w wr:=HI.out.ac.bl;obtain ⟨bx,ox,y,q0,q1,q2,q3,hax,hbx,hyy,yc0,yc1,yc2,yc3,hyv⟩:=HX.out.pick (k:=k) (by rw [HLn.out];exact hlk);obtain ⟨ya,yn,yc,yb,yan,ynn,ycn,yad,ynd,ycd,rfl,rfl,rfl,rfl⟩:=hyv.spell;have hxk:l.getD k zerA=y:=by rw [List.getD_eq_getElem?_getD,hyy];rfl
   have yc0:=(hbi.cell (p:=⟨bx,ox+k * 4,none⟩) hbx).trans yc0;have yc1:=(hbi.cell (p:=⟨bx,ox+k * 4+1,none⟩) hbx).trans yc1;have yc2:=(hbi.cell (p:=⟨bx,ox+k * 4+2,none⟩) hbx).trans yc2;have yc3:=(hbi.cell (p:=⟨bx,ox+k * 4+3,none⟩) hbx).trans yc3;have hbx2:=Nat.lt_of_lt_of_le hbx hbi.size;have hal:=blA wr (.cells #[.slice ya yn yc,.bool yb,.slice yan ynn ycn,.slice yad ynd ycd] 53);obtain ⟨HI2,HYb,HYv,Hyb,HHx⟩:=hd5 (HI.out.below hal) (Box4.alloc wr (.slice ya yn yc) (.bool yb) (.slice yan ynn ycn) (.slice yad ynd ycd) 53) (formK.below (formK.below hyv (hbi)) hal) (show BdF D B N y from by rw [<- hxk];exact HBl.out.at hD k) hxk;clear hyy hyv hxk hal hbi HI;rw [hax]
   go_upto_region 5 with fail
   generalize wr.alloc (.cells #[.slice ya yn yc,.bool yb,.slice yan ynn ycn,.slice yad ynd ycd] 53)=wj at *;obtain ⟨sa,sn,sc,sb,san,snn,scn,sad,snd,scd,hbxs⟩:=HI2.out.ac.spell;obtain ⟨s0,s1,s2,s3,sf,slt⟩:=hbxs.bx;obtain ⟨z0,z1,z2,z3,zf,zlt⟩:=HYb.out;have HAdd:Hid (Calls Tryz.prog 60 #[.agg #[.slice sa sn sc,.bool sb,.slice san snn scn,.slice sad snd scd],.agg #[.slice ya yn yc,.bool yb,.slice yan ynn ycn,.slice yad ynd ycd]] wj (RetAf wj (plusF l (k+1)))):=by
    show Calls _ _ _ _ (RetAf wj (addA 1 (plusF l k) (l.getD k zerA)))
    rw [HHx.out];have e:(k+1) * B<=n * B:=Nat.mul_le_mul_right _ hlk;rw [Nat.succ_mul] at e;have h:=HPP.out;rw [HPE.out] at h;exact lAdd hbxs.fm.val HYv.out.val (BdF.plus HBl.out hD k) Hyb.out (h.le HnD.out (by omega)) hN
   clear hbxs yc0 yc1 yc2 yc3
   go_wp2_with fail
   refine HAdd.out.mono ?_
   rintro e w5 ⟨v5,rfl,hv,hb⟩;obtain ⟨na,nn,nc,nb,nan,nnn,ncn,nad,nnd,ncd,rfl⟩:=hv.spell;have HSt:=hid (HI2.out.step hb hv.fp);obtain ⟨_,_,_,_,hbz⟩:=(HI2.out.below hb).ac.ex;obtain ⟨x0,x1,x2,x3,xf,xlt⟩:=hbz.bx;clear hv hb hbz HAdd s0 s1 s2 s3 sf slt z0 z1 z2 z3 zf zlt;go_wp2;go_roundw
   case rel=>exact ⟨k+1,hlk,by go_num,HSt.out⟩
   case measure=>simp [intOf];omega
  ·obtain rfl:k=n:=by omega
   have HFr:Hid (∀ X,Calls Tryz.prog 92 #[.int .i64 1,.int .i64 (k:Int)] X (RetRE X (ratL (1 / ((k:Int):Rat))) 0)):=fun X=>by
    have h:=rFrac X 1 (k:Int) (by decide) (by decide) (by omega) (by omega) (by omega);rw [show (((1:Int):Rat))=1 from rfl] at h;exact h
   have HIk:=hid HI.out;clear HI
   go_wp2_with fail
   refine (HFr.out _).mono ?_
   rintro e w5 ⟨v5,rfl,hv,hb⟩;have HI5:=hid (HIk.out.below hb);obtain ⟨p1,p2,p3,rfl,hrc⟩:=RatC.of hv;obtain ⟨pb,pan,pnn,pcn,pad,pnd,pcd,e⟩:=hv.spell;cases e;obtain ⟨HB6,HK6⟩:=hd2 ((Below.refl w5.heap.size w5).alloc (Nat.le_refl _) (.cells #[.bool pb,.slice pan pnn pcn,.slice pad pnd pcd] 51)) (Box3.alloc w5 (.bool pb) (.slice pan pnn pcn) (.slice pad pnd pcd) 51);obtain ⟨HI6,HV6⟩:=hd2 (HI5.out.below HB6.out) (hv.below HB6.out);clear hv hb hrc HFr HIk HI5
   go_upto_region 8 with fail
   generalize w5.alloc (.cells #[.bool pb,.slice pan pnn pcn,.slice pad pnd pcd] 51)=W6 at *;obtain ⟨sa,sn,sc,sb,san,snn,scn,sad,snd,scd,hbxs⟩:=HI6.out.ac.spell;obtain ⟨s0,s1,s2,s3,sf,slt⟩:=hbxs.bx;obtain ⟨z0,z1,z2,zf,zlt⟩:=HK6.out;have HSc:Hid (Calls Tryz.prog 89 #[.agg #[.slice sa sn sc,.bool sb,.slice san snn scn,.slice sad snd scd],.agg #[.bool pb,.slice pan pnn pcn,.slice pad pnd pcd]] W6 (RetAf W6 (meanF l))):=by
    unfold meanF;rw [HLn.out];have h:=HPP.out;rw [HPE.out] at h;exact lScale hbxs.fm.val HV6.out (Bd.inv (by omega)) (BdF.plus HBl.out hD k) (h.le (Nat.le_refl _) (by rw [Nat.one_mul];omega)) hN
   clear hbxs
   go_wp2_with fail
   refine HSc.out.mono ?_
   rintro e w7 ⟨v7,rfl,hv,hb⟩;obtain ⟨na,nn,nc,nb,nan,nnn,ncn,nad,nnd,ncd,rfl⟩:=hv.spell;have HI7:=hid (HI6.out.below hb);have HO:=hid (hv.ret HI7.out.ra HI7.out.ac.bl (Nat.le_refl _));obtain ⟨r0,r1,r2,r3,rf,rlt⟩:=HI7.out.rb;clear hv hb HSc s0 s1 s2 s3 sf slt z0 z1 z2 zf zlt HI6 HV6 HK6 HB6;generalize meanF l=R at *;go_wp2;exact bodyPost_ret (by simp [results,Tryz.results59,go_sem,r0,r1,r2,r3,rlt,Nat.ne_of_lt rlt]) rfl HO.out
end Go.Proofs.YtfgmmghmmfmdgaaGreat
