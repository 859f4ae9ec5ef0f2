/-
  Contracts of the functions that the statement reaches: LinL.
-/
import Derived.Test.YtfgmmghmmfmdgaaGreatK31
set_option linter.all false
set_option maxRecDepth 100000
set_option maxHeartbeats 3200000
namespace Go.Proofs.YtfgmmghmmfmdgaaGreat
open Go.RowKit
open Go.Lib (hid)
structure MrgLe (k:Rat) (f g:AffQ):Prop where
 lk:RatLe (ratL k) 1048575
 lfc:RatLe (ratL f.c) 1048575
 lgc:RatLe (ratL g.c) 1048575
 lgck:RatLe (ratL (g.c * k)) 1048575
 lft:∀ t ∈ f.ts,RatLe (ratL t.2) 1048575
 lgt:∀ t ∈ g.ts,RatLe (ratL t.2) 1048575
 lgtk:∀ t ∈ g.ts,RatLe (ratL (t.2 * k)) 1048575
 lsum:∀ t ∈ f.ts,∀ u ∈ g.ts,RatLe (ratL (t.2+u.2 * k)) 1048575
 llen:f.ts.length+g.ts.length<=1000000
structure MrgW (w W:World) (f0 f1 f2 f3 g0 g1 g2 g3 k1 k2 k3:Value):Prop where
 fb:Box4 W w.heap.size f0 f1 f2 f3
 gb:Box4 W (w.heap.size+1) g0 g1 g2 g3
 cb:Box3 W (w.heap.size+1+1) k1 k2 k3
 rb:Box4 W (w.heap.size+1+1+1) (.slice none 0 0) (.bool false) (.slice none 0 0) (.slice none 0 0)
 nr:NoInt W (w.heap.size+1+1+1)
 bl:Below w.heap.size w W
theorem MrgW.below {w W W':World} {f0 f1 f2 f3 g0 g1 g2 g3 k1 k2 k3:Value} (h:MrgW w W f0 f1 f2 f3 g0 g1 g2 g3 k1 k2 k3) (hb:Below W.heap.size W W'):MrgW w W' f0 f1 f2 f3 g0 g1 g2 g3 k1 k2 k3:=
 ⟨h.fb.below hb,h.gb.below hb,h.cb.below hb,h.rb.below hb,h.nr.below hb h.rb.lt,h.bl.trans (hb.mono h.bl.size)⟩
theorem MrgW.pos {w W:World} {f0 f1 f2 f3 g0 g1 g2 g3 k1 k2 k3:Value} (h:MrgW w W f0 f1 f2 f3 g0 g1 g2 g3 k1 k2 k3):w.heap.size+1+1+1 < W.heap.size:=h.rb.lt
theorem MrgW.mk' (w:World) (f0 f1 f2 f3 g0 g1 g2 g3 k1 k2 k3:Value) (T T':TypeId):
  MrgW w ((((w.alloc (.cells #[f0,f1,f2,f3] T)).alloc (.cells #[g0,g1,g2,g3] T)).alloc (.cells #[k1,k2,k3] T')).alloc (.cells #[.slice none 0 0,.bool false,.slice none 0 0,.slice none 0 0] T)) f0 f1 f2 f3 g0 g1 g2 g3 k1 k2 k3:=by
 have a1:=Box4.alloc w f0 f1 f2 f3 T;have b1:=blA w (.cells #[f0,f1,f2,f3] T);have s1:(w.alloc (.cells #[f0,f1,f2,f3] T)).heap.size=w.heap.size+1:=by simp
 generalize w.alloc (.cells #[f0,f1,f2,f3] T)=W1 at *;have a2:=Box4.alloc W1 g0 g1 g2 g3 T;have b2:=blA W1 (.cells #[g0,g1,g2,g3] T);have s2:(W1.alloc (.cells #[g0,g1,g2,g3] T)).heap.size=w.heap.size+1+1:=by simp;omega
 generalize W1.alloc (.cells #[g0,g1,g2,g3] T)=W2 at *;have a3:=Box3.alloc W2 k1 k2 k3 T';have b3:=blA W2 (.cells #[k1,k2,k3] T');have s3:(W2.alloc (.cells #[k1,k2,k3] T')).heap.size=w.heap.size+1+1+1:=by simp;omega
 generalize W2.alloc (.cells #[k1,k2,k3] T')=W3 at *;have a4:=Box4.alloc W3 (.slice none 0 0) (.bool false) (.slice none 0 0) (.slice none 0 0) T;have n4:=NoInt.alloc W3 #[.slice none 0 0,.bool false,.slice none 0 0,.slice none 0 0] T (by simp);have b4:=blA W3 (.cells #[.slice none 0 0,.bool false,.slice none 0 0,.slice none 0 0] T);generalize W3.alloc (.cells #[.slice none 0 0,.bool false,.slice none 0 0,.slice none 0 0] T)=W4 at *;rw [s1] at a2;rw [s2] at a3;rw [s3] at a4 n4;have b34:=b3.trans (b4.mono b3.size);have b24:=b2.trans (b34.mono b2.size);exact ⟨a1.below b24,a2.below b34,a3.below b4,a4,n4,b1.trans (b24.mono b1.size)⟩
def lowV (base:Nat) (v:Value) (l:List Nat):Prop:=l=[] ∨ ∀ (b off n c:Nat),v=.slice (some ⟨b,off,none⟩) n c->b < base
theorem U32s.low {w:World} {a:Option Addr} {l:List Nat} {n c:Nat} (h:U32s w a l):lowV w.heap.size (.slice a n c) l:=by
 by_cases hl:l=[]
 ·exact .inl hl
 ·obtain ⟨b,off,rfl,hb,_⟩:=h.open hl
  refine .inr fun b' off' n' c' e=>?_
  cases e;exact hb
theorem U32s.lowB {w w':World} {base:Nat} {a:Option Addr} {l:List Nat} {n c:Nat} (h:U32s w a l) (hl:lowV base (.slice a n c) l) (hb:Below base w w'):U32s w' a l:=by
 by_cases he:l=[]
 ·rw [he];exact U32s.nil _ _
 ·obtain ⟨b,off,rfl,hbl,hc⟩:=h.open he
  rcases hl with hl | hl
  ·exact absurd hl he
  ·have hlt:=hl b off n c rfl
   refine ⟨h.lim,h.len,h.row.imp id ?_⟩
   rintro ⟨b',off',e,_,hcc⟩;cases e;exact ⟨b,off,rfl,Nat.lt_of_lt_of_le hbl hb.size,fun j d hj=>(hb.cell (p:=⟨b,off+j,none⟩) hlt).trans (hcc j d hj)⟩
theorem RatC.lowB {w w':World} {base:Nat} {p1 p2 p3:Value} {q:Rat} (h:RatC w p1 p2 p3 q) (h2:lowV base p2 (ratL q).num) (h3:lowV base p3 (ratL q).den) (hb:Below base w w'):RatC w' p1 p2 p3 q:=by
 obtain ⟨an,ad,cn,cd,rfl,rfl,rfl,l1,l2,u1,u2⟩:=h.ex;exact ⟨an,ad,cn,cd,rfl,rfl,rfl,l1,l2,u1.lowB h2 hb,u2.lowB h3 hb⟩
structure MrgS (W wr:World) (b base:Nat) (s:Value) (out:List (Nat × Rat)) (r1 r2 r3:Value) (q:Rat):Prop where
 ob:Box4 wr b s r1 r2 r3
 nb:NoInt wr b
 own:Own4 TermP noI 84 wr base s out
 rc:RatC wr r1 r2 r3 q
 v2:lowV base r2 (ratL q).num
 v3:lowV base r3 (ratL q).den
 bl:Below W.heap.size W wr
 ge:W.heap.size<=b
 lt:b < base
 le:base<=wr.heap.size
theorem MrgS.below {W wr w':World} {b base:Nat} {s:Value} {out:List (Nat × Rat)} {r1 r2 r3:Value} {q:Rat} (h:MrgS W wr b base s out r1 r2 r3 q) (hb:Below wr.heap.size wr w'):MrgS W w' b base s out r1 r2 r3 q:=
 ⟨h.ob.below hb,h.nb.below hb h.ob.lt,h.own.below termK hb,h.rc.below hb,h.v2,h.v3,h.bl.trans (hb.mono h.bl.size),h.ge,h.lt,Nat.le_trans h.le hb.size⟩
theorem Box4.store {w:World} {g:Nat} {p0 p1 p2 p3:Value} (h:Box4 w g p0 p1 p2 p3) (q0 q1 q2 q3:Value):Box4 ((((w.setCell ⟨g,0,none⟩ q0).setCell ⟨g,1,none⟩ q1).setCell ⟨g,2,none⟩ q2).setCell ⟨g,3,none⟩ q3) g q0 q1 q2 q3:=by
 refine ⟨?_,?_,?_,?_,?_,by simpa using h.lt⟩
 ·rw [World.cell?_setCell_other _ _ _ _ (by intro e;cases e),World.cell?_setCell_other _ _ _ _ (by intro e;cases e),World.cell?_setCell_other _ _ _ _ (by intro e;cases e)];exact World.cell?_setCell_same _ _ _ h.c0
 ·rw [World.cell?_setCell_other _ _ _ _ (by intro e;cases e),World.cell?_setCell_other _ _ _ _ (by intro e;cases e)];exact World.cell?_setCell_same _ _ _ ((World.cell?_setCell_other _ _ _ _ (by intro e;cases e)).trans h.c1)
 ·rw [World.cell?_setCell_other _ _ _ _ (by intro e;cases e)];exact World.cell?_setCell_same _ _ _ ((World.cell?_setCell_other _ _ _ _ (by intro e;cases e)).trans ((World.cell?_setCell_other _ _ _ _ (by intro e;cases e)).trans h.c2))
 ·exact World.cell?_setCell_same _ _ _ ((World.cell?_setCell_other _ _ _ _ (by intro e;cases e)).trans ((World.cell?_setCell_other _ _ _ _ (by intro e;cases e)).trans ((World.cell?_setCell_other _ _ _ _ (by intro e;cases e)).trans h.c3)))
 ·intro o;simp [World.frozen?_setCell,h.free o]
theorem below_store4 {n g:Nat} {w w':World} (h:Below n w w') (hg:n<=g) (p q r s:Value):Below n w ((((w'.setCell ⟨g,0,none⟩ p).setCell ⟨g,1,none⟩ q).setCell ⟨g,2,none⟩ r).setCell ⟨g,3,none⟩ s):=
 (((h.setCell (p:=⟨g,0,none⟩) hg p).setCell (p:=⟨g,1,none⟩) hg q).setCell (p:=⟨g,2,none⟩) hg r).setCell (p:=⟨g,3,none⟩) hg s
theorem MrgS.start {W wr:World} {b B:Nat} {r1 r2 r3:Value} {q:Rat} (hb:Below W.heap.size W wr) (hge:W.heap.size<=b) (hx:Box4 wr b (.slice none 0 0) (.bool false) (.slice none 0 0) (.slice none 0 0)) (hn:NoInt wr b) (hr:RatC wr r1 r2 r3 q) (_:B < W.heap.size):
  MrgS W ((((wr.setCell ⟨b,0,none⟩ (.slice none 0 0)).setCell ⟨b,1,none⟩ r1).setCell ⟨b,2,none⟩ r2).setCell ⟨b,3,none⟩ r3) b wr.heap.size (.slice none 0 0) [] r1 r2 r3 q:=by
 obtain ⟨an,ad,cn,cd,rfl,rfl,rfl,l1,l2,u1,u2⟩:=hr.ex;have n1:=hn.setCell 0 (.slice none 0 0) (by simp);have n2:=n1.setCell 1 (.bool (ratL q).neg) (by simp);have n3:=n2.setCell 2 (.slice an (ratL q).num.length cn) (by simp);have n4:=n3.setCell 3 (.slice ad (ratL q).den.length cd) (by simp);exact ⟨hx.store _ _ _ _,n4,Own4.nil _ _,(((hr.setCell hn _ _).setCell n1 _ _).setCell n2 _ _).setCell n3 _ _,u1.low,u2.low,below_store4 hb hge _ _ _ _,hge,hx.lt,by simp⟩
theorem MrgS.put {W wr w3:World} {b base:Nat} {s:Value} {out out':List (Nat × Rat)} {q:Rat} {b0:Bool} {an ad:Option Addr} {nn cn nd cd:Nat} {a:Option Addr} {n c:Nat} (h:MrgS W wr b base s out (.bool b0) (.slice an nn cn) (.slice ad nd cd) q) (ho:Own4 TermP noI 84 w3 base (.slice a n c) out') (hb:Below base wr w3):
  MrgS W ((((w3.setCell ⟨b,0,none⟩ (.slice a n c)).setCell ⟨b,1,none⟩ (.bool b0)).setCell ⟨b,2,none⟩ (.slice an nn cn)).setCell ⟨b,3,none⟩ (.slice ad nd cd)) b base (.slice a n c) out' (.bool b0) (.slice an nn cn) (.slice ad nd cd) q:=by
 have hn:NoInt w3 b:=fun o x e=>h.nb o x ((hb.cell (p:=⟨b,o,none⟩) h.lt).symm.trans e)
 have n1:=hn.setCell 0 (.slice a n c) (by simp);have n2:=n1.setCell 1 (.bool b0) (by simp);have n3:=n2.setCell 2 (.slice an nn cn) (by simp);have n4:=n3.setCell 3 (.slice ad nd cd) (by simp);have hne:(Value.slice a n c).ownBlock ≠ some b:=fun e=>by have:=(ho.lt e).1;have:=h.lt;omega
 have hr:RatC w3 (.bool b0) (.slice an nn cn) (.slice ad nd cd) q:=h.rc.lowB h.v2 h.v3 hb;have hge:W.heap.size<=base:=by have:=h.ge;have:=h.lt;omega
 exact ⟨(h.ob.belowB hb h.lt).store _ _ _ _,n4,own_terms_set (own_terms_set (own_terms_set (own_terms_set ho hn hne _ _) n1 hne _ _) n2 hne _ _) n3 hne _ _,(((hr.setCell hn _ _).setCell n1 _ _).setCell n2 _ _).setCell n3 _ _,h.v2,h.v3,
  below_store4 (h.bl.trans (hb.mono hge)) h.ge _ _ _ _,h.ge,h.lt,by have:=h.le;have:=hb.size;simp;omega⟩
theorem putT_len (l:List (Nat × Rat)) (v:Nat) (q:Rat):(putT l v q).length<=l.length+1:=by
 unfold putT
 split
 ·omega
 ·simp
def lenV (v:Value):Nat:=match v with | .slice _ n _=>n | _=>0
structure MrgI (w W wr:World) (k:Rat) (f g:AffQ) (b base:Nat) (r1 r2 r3:Value) (q:Rat) (A B out:List (Nat × Rat)) (aA aB ao:Option Addr) (nA cA nB cB no co lo:Nat):Prop where
 lA:A.length=nA
 lB:B.length=nB
 lo':out.length=no
 cA':nA<=cA
 cB':nB<=cB
 tA:TermsAt w aA A
 tB:TermsAt w aB B
 mg:MrgT k f.ts g.ts out A B lo
 mA:∀ t ∈ A,t ∈ f.ts
 mB:∀ t ∈ B,t ∈ g.ts
 few:no+nA+nB<=1000000
 st:MrgS W wr b base (.slice ao no co) out r1 r2 r3 q
theorem TermsAt.head {w:World} {a:Option Addr} {u:Nat} {p:Rat} {A:List (Nat × Rat)} (h:TermsAt w a ((u,p)::A)):∃ b o pn pd pcn pcd,a=some ⟨b,o,none⟩/\b < w.heap.size/\w.cell? ⟨b,o,none⟩=some (.int .i64 (u:Int))/\w.cell? ⟨b,o+1,none⟩=some (.bool (ratL p).neg)/\w.cell? ⟨b,o+2,none⟩=some (.slice pn (ratL p).num.length pcn)/\w.cell? ⟨b,o+3,none⟩=some (.slice pd (ratL p).den.length pcd)/\
  RatV w (.agg #[.bool (ratL p).neg,.slice pn (ratL p).num.length pcn,.slice pd (ratL p).den.length pcd]) (ratL p)/\TermsAt w (some ⟨b,o+4,none⟩) A:=by
 obtain ⟨b,o,x,p0,p1,p2,p3,rfl,hb,hx,c0,c1,c2,c3,e0,hr⟩:=h.pick (k:=0) (by simp);have hx:(u,p)=x:=by simpa using hx
 subst hx;obtain ⟨pn,pd,pcn,pcd,rfl,rfl,rfl,l1,l2,u1,u2⟩:=hr.ex;subst e0;simp only [Nat.zero_mul,Nat.add_zero] at c0 c1 c2 c3;have hd:=h.drop 1;rw [List.drop_succ_cons,List.drop_zero,Nat.one_mul] at hd;exact ⟨b,o,pn,pd,pcn,pcd,rfl,hb,c0,c1,c2,c3,⟨pn,pd,pcn,pcd,rfl,l1,l2,u1,u2⟩,hd⟩
theorem MrgI.left {w W wr w6:World} {k:Rat} {f g:AffQ} {b base:Nat} {r1 r2 r3:Value} {q:Rat} {u:Nat} {p:Rat} {A' B out:List (Nat × Rat)} {aA aB ao:Option Addr} {nA cA nB cB no co lo:Nat} {a5:Option Addr} {n5 c5:Nat} {a':Option Addr} (h:MrgI w W wr k f g b base r1 r2 r3 q ((u,p)::A') B out aA aB ao nA cA nB cB no co lo)
  (hs:MrgS W w6 b base (.slice a5 n5 c5) (putT out u p) r1 r2 r3 q) (hn:(putT out u p).length=n5) (ht:TermsAt w a' A') (hB:CanF B (u+1)):MrgI w W w6 k f g b base r1 r2 r3 q A' B (putT out u p) a' aB a5 (nA - 1) (cA - 1) nB cB n5 c5 (u+1):=by
 have l1:=h.lA;have l2:=h.cA';have l3:=putT_len out u p;have l4:=h.lo';have l5:=h.few;rw [List.length_cons] at l1;exact ⟨by omega,h.lB,hn,by omega,h.cB',ht,h.tB,h.mg.left hB,fun t ht=>h.mA t (List.mem_cons_of_mem _ ht),h.mB,by omega,hs⟩
theorem MrgI.right {w W wr w6:World} {k:Rat} {f g:AffQ} {b base:Nat} {r1 r2 r3:Value} {q:Rat} {u:Nat} {p:Rat} {A B' out:List (Nat × Rat)} {aA aB ao:Option Addr} {nA cA nB cB no co lo:Nat} {a5:Option Addr} {n5 c5:Nat} {a':Option Addr} (h:MrgI w W wr k f g b base r1 r2 r3 q A ((u,p)::B') out aA aB ao nA cA nB cB no co lo)
  (hs:MrgS W w6 b base (.slice a5 n5 c5) (putT out u (p * k)) r1 r2 r3 q) (hn:(putT out u (p * k)).length=n5) (ht:TermsAt w a' B') (hA:CanF A (u+1)):MrgI w W w6 k f g b base r1 r2 r3 q A B' (putT out u (p * k)) aA a' a5 nA cA (nB - 1) (cB - 1) n5 c5 (u+1):=by
 have l1:=h.lB;have l2:=h.cB';have l3:=putT_len out u (p * k);have l4:=h.lo';have l5:=h.few;rw [List.length_cons] at l1;exact ⟨h.lA,by omega,hn,h.cA',by omega,h.tA,ht,h.mg.right hA,h.mA,fun t ht=>h.mB t (List.mem_cons_of_mem _ ht),by omega,hs⟩
theorem MrgI.both {w W wr w6:World} {k:Rat} {f g:AffQ} {b base:Nat} {r1 r2 r3:Value} {q:Rat} {u:Nat} {p z:Rat} {A' B' out:List (Nat × Rat)} {aA aB ao:Option Addr} {nA cA nB cB no co lo:Nat} {a5:Option Addr} {n5 c5:Nat} {a' b':Option Addr} (h:MrgI w W wr k f g b base r1 r2 r3 q ((u,p)::A') ((u,z)::B') out aA aB ao nA cA nB cB no co lo)
  (hs:MrgS W w6 b base (.slice a5 n5 c5) (putT out u (p+z * k)) r1 r2 r3 q) (hn:(putT out u (p+z * k)).length=n5) (ht:TermsAt w a' A') (ht':TermsAt w b' B'):MrgI w W w6 k f g b base r1 r2 r3 q A' B' (putT out u (p+z * k)) a' b' a5 (nA - 1) (cA - 1) (nB - 1) (cB - 1) n5 c5 (u+1):=by
 have l1:=h.lB;have l2:=h.cB';have l3:=putT_len out u (p+z * k);have l4:=h.lo';have l5:=h.few;have l6:=h.lA;have l7:=h.cA';rw [List.length_cons] at l1 l6;exact ⟨by omega,by omega,hn,by omega,by omega,ht,ht',h.mg.both,fun t ht=>h.mA t (List.mem_cons_of_mem _ ht),fun t ht=>h.mB t (List.mem_cons_of_mem _ ht),by omega,hs⟩
theorem MrgI.emptyA {w W wr:World} {k:Rat} {f g:AffQ} {b base:Nat} {r1 r2 r3:Value} {q:Rat} {t:Nat × Rat} {A' B out:List (Nat × Rat)} {aA aB ao a':Option Addr} {nA cA nB cB no co lo:Nat} (h:MrgI w W wr k f g b base r1 r2 r3 q (t::A') B out aA aB ao nA cA nB cB no co lo) (hc:¬ 1 < cA):TermsAt w a' A':=by
 have l1:=h.lA;have l2:=h.cA';rw [List.length_cons] at l1;obtain rfl:A'=[]:=List.eq_nil_of_length_eq_zero (by omega);exact ⟨Nat.zero_le _,.inl rfl⟩
theorem MrgI.emptyB {w W wr:World} {k:Rat} {f g:AffQ} {b base:Nat} {r1 r2 r3:Value} {q:Rat} {t:Nat × Rat} {A B' out:List (Nat × Rat)} {aA aB ao a':Option Addr} {nA cA nB cB no co lo:Nat} (h:MrgI w W wr k f g b base r1 r2 r3 q A (t::B') out aA aB ao nA cA nB cB no co lo) (hc:¬ 1 < cB):TermsAt w a' B':=by
 have l1:=h.lB;have l2:=h.cB';rw [List.length_cons] at l1;obtain rfl:B'=[]:=List.eq_nil_of_length_eq_zero (by omega);exact ⟨Nat.zero_le _,.inl rfl⟩
theorem MrgI.upB {w W wr:World} {k:Rat} {f g:AffQ} {b base:Nat} {r1 r2 r3:Value} {q:Rat} {u v:Nat} {p z:Rat} {A' B' out:List (Nat × Rat)} {aA aB ao:Option Addr} {nA cA nB cB no co lo:Nat} (h:MrgI w W wr k f g b base r1 r2 r3 q ((u,p)::A') ((v,z)::B') out aA aB ao nA cA nB cB no co lo) (hlt:u < v):CanF ((v,z)::B') (u+1):=⟨hlt,h.mg.cb.2.1,h.mg.cb.2.2⟩
theorem MrgI.upA {w W wr:World} {k:Rat} {f g:AffQ} {b base:Nat} {r1 r2 r3:Value} {q:Rat} {u v:Nat} {p z:Rat} {A' B' out:List (Nat × Rat)} {aA aB ao:Option Addr} {nA cA nB cB no co lo:Nat} (h:MrgI w W wr k f g b base r1 r2 r3 q ((u,p)::A') ((v,z)::B') out aA aB ao nA cA nB cB no co lo) (hlt:v < u):CanF ((u,p)::A') (v+1):=⟨hlt,h.mg.ca.2.1,h.mg.ca.2.2⟩
theorem MrgI.post {w W wr:World} {k:Rat} {f g:AffQ} {b base:Nat} {b0:Bool} {an ad:Option Addr} {nn cn nd cd:Nat} {qc:Rat} {out:List (Nat × Rat)} {aA aB ao:Option Addr} {nA cA nB cB no co lo:Nat} {f0 f1 f2 f3 g0 g1 g2 g3 k1 k2 k3:Value}
  (h:MrgI w W wr k f g b base (.bool b0) (.slice an nn cn) (.slice ad nd cd) qc [] [] out aA aB ao nA cA nB cB no co lo) (hw:MrgW w W f0 f1 f2 f3 g0 g1 g2 g3 k1 k2 k3) (hq:qc=f.c+g.c * k):
  RetAf w (addA k f g) (.returned (.agg #[.slice ao no co,.bool b0,.slice an nn cn,.slice ad nd cd]))
   ((((wr.setCell ⟨w.heap.size+1+1+1,0,none⟩ (.slice ao no co)).setCell ⟨w.heap.size+1+1+1,1,none⟩ (.bool b0)).setCell ⟨w.heap.size+1+1+1,2,none⟩ (.slice an nn cn)).setCell ⟨w.heap.size+1+1+1,3,none⟩ (.slice ad nd cd)):=by
 have hn:=(hw.below h.st.bl).nr;have n1:=hn.setCell 0 (.slice ao no co) (by simp);have n2:=n1.setCell 1 (.bool b0) (by simp);have n3:=n2.setCell 2 (.slice an nn cn) (by simp);have hpos:=hw.pos;have hne:(Value.slice ao no co).ownBlock ≠ some (w.heap.size+1+1+1):=fun e=>by have:=(h.st.own.lt e).1;have:=h.st.lt;have:=h.st.ge;omega
 have hO:=own_terms_set (own_terms_set (own_terms_set (own_terms_set h.st.own hn hne 0 (.slice ao no co)) n1 hne 1 (.bool b0)) n2 hne 2 (.slice an nn cn)) n3 hne 3 (.slice ad nd cd);have hR:=(((h.st.rc.setCell hn 0 (.slice ao no co)).setCell n1 1 (.bool b0)).setCell n2 2 (.slice an nn cn)).setCell n3 3 (.slice ad nd cd);have hlen:=h.lo';have hfew:=h.few;have hdone:=h.mg.done;have hB:Below w.heap.size w wr:=hw.bl.trans (h.st.bl.mono hw.bl.size);subst hlen;obtain ⟨a',c',e',hc'⟩:=hO.form;cases e';have hrow:=hO.read (by omega)
 refine ⟨_,rfl,⟨_,_,_,_,rfl,⟨ao,co,?_,?_,?_⟩,?_⟩,below_store4 hB (by omega) _ _ _ _⟩
 ·show _=Value.slice ao (addT k f.ts g.ts).length co
  rw [<- hdone]
 ·show (addT k f.ts g.ts).length<=co
  rw [<- hdone];exact hc'
 ·show TermsAt _ ao (addT k f.ts g.ts)
  rw [<- hdone];exact hrow
 ·show RatC _ _ _ _ (f.c+k * g.c)
  rw [show f.c+k * g.c=qc by rw [hq,Rat.mul_comm]];exact hR
theorem lMerge {w:World} {vf vg vk:Value} {f g:AffQ} {k:Rat} (hf:FormV w vf f) (hg:FormV w vg g) (hk:RatV w vk (ratL k)) (cf:f.Can) (cg:g.Can) (hle:MrgLe k f g):
  Calls Tryz.prog 93 #[vf,vg,vk] w (RetAf w (addA k f g)):=by
 obtain ⟨aF,cF,fan,fad,fcn,fcd,rfl,hcF,htF,l1,l2,u1,u2⟩:=hf.parts;obtain ⟨aG,cG,gan,gad,gcn,gcd,rfl,hcG,htG,m1,m2,v1,v2⟩:=hg.parts;obtain ⟨kn,kd,kcn,kcd,rfl,n1,n2,x1,x2⟩:=hk.ex;have HFc:Hid (RatV w (.agg #[.bool (ratL f.c).neg,.slice fan (ratL f.c).num.length fcn,.slice fad (ratL f.c).den.length fcd]) (ratL f.c)):=⟨fan,fad,fcn,fcd,rfl,l1,l2,u1,u2⟩
 have HGc:Hid (RatV w (.agg #[.bool (ratL g.c).neg,.slice gan (ratL g.c).num.length gcn,.slice gad (ratL g.c).den.length gcd]) (ratL g.c)):=⟨gan,gad,gcn,gcd,rfl,m1,m2,v1,v2⟩
 have HKc:Hid (RatV w (.agg #[.bool (ratL k).neg,.slice kn (ratL k).num.length kcn,.slice kd (ratL k).den.length kcd]) (ratL k)):=⟨kn,kd,kcn,kcd,rfl,n1,n2,x1,x2⟩
 obtain ⟨HTF,HTG,HcF,HcG,HLe⟩:=hd5 htF htG cf cg hle;have HW:=hid (MrgW.mk' w (.slice aF f.ts.length cF) (.bool (ratL f.c).neg) (.slice fan (ratL f.c).num.length fcn) (.slice fad (ratL f.c).den.length fcd) (.slice aG g.ts.length cG) (.bool (ratL g.c).neg) (.slice gan (ratL g.c).num.length gcn) (.slice gad (ratL g.c).den.length gcd)
  (.bool (ratL k).neg) (.slice kn (ratL k).num.length kcn) (.slice kd (ratL k).den.length kcd) 53 51)
 have hlF:=htF.len;have hlG:=htG.len;clear hf hg hk cf cg hle htF htG u1 u2 v1 v2 x1 x2
 go_enter Tryz.func93,Tryz.ntmps93
 go_upto_region 1 with fail
 generalize (((w.alloc (.cells #[.slice aF f.ts.length cF,.bool (ratL f.c).neg,.slice fan (ratL f.c).num.length fcn,.slice fad (ratL f.c).den.length fcd] 53)).alloc (.cells #[.slice aG g.ts.length cG,.bool (ratL g.c).neg,.slice gan (ratL g.c).num.length gcn,.slice gad (ratL g.c).den.length gcd] 53)).alloc (.cells #[.bool (ratL k).neg,.slice kn (ratL k).num.length kcn,.slice kd (ratL k).den.length kcd] 51)).alloc (.cells #[.slice none 0 0,.bool false,.slice none 0 0,.slice none 0 0] 53)=W at *;obtain ⟨qc,hqc⟩:∃ qc,qc=f.c+g.c * k:=⟨_,rfl⟩
 have HQc:=hid hqc;clear hqc;have HMul:Hid (∀ X,Below W.heap.size W X->Calls Tryz.prog 134 #[.agg #[.bool (ratL g.c).neg,.slice gan (ratL g.c).num.length gcn,.slice gad (ratL g.c).den.length gcd],.agg #[.bool (ratL k).neg,.slice kn (ratL k).num.length kcn,.slice kd (ratL k).den.length kcd]] X (RetR X (ratL (g.c * k)))):=fun X hb=>by
  have hb2:=HW.out.bl.trans (hb.mono HW.out.bl.size);have h:=rMul (HGc.out.below hb2) (HKc.out.below hb2) HLe.out.lgc HLe.out.lk;rw [ratOf_ratL,ratOf_ratL] at h;exact h
 have HAdd:Hid (∀ X,Below W.heap.size W X->∀ z,RatV X z (ratL (g.c * k))->Calls Tryz.prog 133 #[.agg #[.bool (ratL f.c).neg,.slice fan (ratL f.c).num.length fcn,.slice fad (ratL f.c).den.length fcd],z] X (RetR X (ratL qc))):=fun X hb z hz=>by
  rw [HQc.out];have hb2:=HW.out.bl.trans (hb.mono HW.out.bl.size);have h:=rAdd (HFc.out.below hb2) hz HLe.out.lfc HLe.out.lgck;rw [ratOf_ratL,ratOf_ratL] at h;exact h
 refine wp_region_slots_tail 9 (by kernel_rfl) (by kernel_rfl) (by kernel_rfl) (by kernel_rfl) (by decide) (From W.heap.size W) (fun w w'=>Below w.heap.size w w') (GQ [.val (.pointer (some ⟨w.heap.size,1,none⟩)),.val (.agg #[.bool (ratL f.c).neg,.slice fan (ratL f.c).num.length fcn,.slice fad (ratL f.c).den.length fcd]),.val (.pointer (some ⟨w.heap.size+1,1,none⟩)),.val (.agg #[.bool (ratL g.c).neg,.slice gan (ratL g.c).num.length gcn,.slice gad (ratL g.c).den.length gcd]),.val (.agg #[.bool (ratL k).neg,.slice kn (ratL k).num.length kcn,.slice kd (ratL k).den.length kcd]),.rat (g.c * k),.rat qc,.num qc,.new4 W.heap.size]) (fun i v w w' h hb=>GQ_below h hb) (From.start (Nat.le_refl _)) ?_ ?_
 ·intro ops;simp only [List.take_succ_cons,List.take_zero,Shows]
  refine ⟨?v0,?v1,?v2,?v3,?v4,?_,?_,?_,?_,trivial⟩
  all_goals (intro y X hR hL;have hB:=hR.base;have HW1:=hid (HW.out.below hR.be);obtain ⟨f0,f1,f2,f3,_,ft⟩:=HW1.out.fb;obtain ⟨g0,g1,g2,g3,_,gt⟩:=HW1.out.gb;obtain ⟨k0,k1,k2,_,kt⟩:=HW1.out.cb;simp only [Laid,Region.binds,forall_const,Bool.false_eq_true,false_implies,GQ,List.getElem?_cons_zero,List.getElem?_cons_succ] at hL;simp [fillFrom,Act.put])
  case v0|v1|v2|v3|v4=>
   try simp only [hL]
   clear hL;have HR:=hid hR;clear hR;go_wp2;exact ⟨_,rfl,HR.out,Below.refl _ _,rfl⟩
  ·try simp only [hL]
   clear hL;have HR:=hid hR;clear hR;have HCt:=hid (HMul.out X HR.out.be)
   go_wp2_with fail
   refine HCt.out.mono ?_
   rintro e w1 ⟨v1,rfl,kv,kb⟩;obtain ⟨KV,KB⟩:=hd2 kv kb;clear kv kb HCt;go_wp2;exact ⟨_,rfl,⟨Nat.le_trans HR.out.base KB.out.size,HR.out.be.trans (KB.out.mono HR.out.base)⟩,KB.out,KV.out⟩
  ·generalize y 1=y1 at hL ⊢;generalize y 5=y5 at hL ⊢;obtain ⟨rfl,H5,_,_⟩:=hL;obtain ⟨K5,HR⟩:=hd2 H5 hR;clear hR H5;have HCt:=hid (HAdd.out X HR.out.be _ K5.out)
   go_wp2_with fail
   refine HCt.out.mono ?_
   rintro e w1 ⟨v1,rfl,kv,kb⟩;obtain ⟨KV,KB⟩:=hd2 kv kb;clear kv kb HCt;go_wp2;exact ⟨_,rfl,⟨Nat.le_trans HR.out.base KB.out.size,HR.out.be.trans (KB.out.mono HR.out.base)⟩,KB.out,KV.out⟩
  ·generalize y 6=y6 at hL ⊢;obtain ⟨H6,_⟩:=hL;obtain ⟨K6,HR⟩:=hd2 H6 hR;clear hR H6;obtain ⟨an',ad',cn',cd',rfl,l1,l2,u1,u2⟩:=K6.out.ex;have HRC:=hid (show RatC X _ _ _ _ from ⟨an',ad',cn',cd',rfl,rfl,rfl,l1,l2,u1,u2⟩);clear u1 u2 K6;go_wp2;exact ⟨_,rfl,HR.out,Below.refl _ _,_,_,_,rfl,HRC.out⟩
  ·try simp only [hL]
   clear hL;have HR:=hid hR;clear hR;obtain ⟨HK4,HN4,HBa⟩:=hd3 (Box4.alloc X (.slice none 0 0) (.bool false) (.slice none 0 0) (.slice none 0 0) 53) (NoInt.alloc X #[.slice none 0 0,.bool false,.slice none 0 0,.slice none 0 0] 53 (by simp)) ((Below.refl X.heap.size X).alloc (Nat.le_refl _) (.cells #[.slice none 0 0,.bool false,.slice none 0 0,.slice none 0 0] 53));go_wp2
   first | refine ⟨_,rfl,?_⟩ | skip
   exact ⟨⟨Nat.le_trans HR.out.base HBa.out.size,HR.out.be.trans (HBa.out.mono HR.out.base)⟩,HBa.out,_,rfl,HR.out.base,HK4.out,HN4.out⟩
 ·intro ops y X hR hL;have hB:=hR.base;have J7:=hL.1.2;have J8:=hL.2;simp only [GQ,List.getElem?_cons_zero,List.getElem?_cons_succ] at J7 J8;have HW1:=hid (HW.out.below hR.be);obtain ⟨f0,f1,f2,f3,_,ft⟩:=HW1.out.fb;obtain ⟨g0,g1,g2,g3,_,gt⟩:=HW1.out.gb;obtain ⟨k0,k1,k2,_,kt⟩:=HW1.out.cb;clear hL;simp only [List.take_succ_cons,List.take_zero,List.drop_succ_cons,List.drop_zero];simp [fillFrom,Act.put];generalize y 7=y7 at J7 ⊢;generalize y 8=y8 at J8 ⊢;have HR:=hid hR;clear hR;obtain ⟨r1,r2,r3,rfl,hrc⟩:=J7;obtain ⟨b,rfl,hge,hbx,hni⟩:=J8;obtain ⟨rn,rd,rcn,rcd,rfl,rfl,rfl,l1,l2,u1,u2⟩:=hrc.ex;have HSt:=hid (MrgS.start (wr:=X) HR.out.be hge hbx hni ⟨rn,rd,rcn,rcd,rfl,rfl,rfl,l1,l2,u1,u2⟩ HW.out.pos);have hlt:=hbx.lt;obtain ⟨b0,b1,b2,b3,bf,_⟩:=hbx;clear hrc u1 u2;obtain ⟨base,hbase⟩:∃ base,base=X.heap.size:=⟨_,rfl⟩
  rw [<- hbase] at HSt
  go_upto_region 2 with fail
  generalize ((((X.setCell ⟨b,0,none⟩ (.slice none 0 0)).setCell ⟨b,1,none⟩ (.bool (ratL qc).neg)).setCell ⟨b,2,none⟩ (.slice rn (ratL qc).num.length rcn)).setCell ⟨b,3,none⟩ (.slice rd (ratL qc).den.length rcd))=W1 at *;clear b0 b1 b2 b3 bf hlt hge hni hbase f0 f1 f2 f3 ft g0 g1 g2 g3 gt k0 k1 k2 kt HW1 HR HMul HAdd;have HW2:=hid (HW.out.below HSt.out.bl);obtain ⟨f0,f1,f2,f3,_,ft⟩:=HW2.out.fb;obtain ⟨g0,g1,g2,g3,_,gt⟩:=HW2.out.gb
  go_quiet (fail)
  clear f0 f1 f2 f3 ft g0 g1 g2 g3 gt HW2;have HS2:=hid (HSt.out.below (below_drewN (Below.refl _ _) nq));generalize W1.drewN nq=W2 at *;go_wp2
  go_loopw [8,9] (fun sa sb wr=>∃ (A B out:List (Nat × Rat)) (aA aB ao:Option Addr) (nA cA nB cB no co lo:Nat),sa=.slice aA nA cA/\sb=.slice aB nB cB/\Hid (MrgI w W wr k f g b base (.bool (ratL qc).neg) (.slice rn (ratL qc).num.length rcn) (.slice rd (ratL qc).den.length rcd) qc A B out aA aB ao nA cA nB cB no co lo)) (fun sa sb _=>lenV sa+lenV sb)
  case atStart=>exact ⟨f.ts,g.ts,[],aF,aG,none,f.ts.length,cF,g.ts.length,cG,0,0,0,rfl,rfl,rfl,rfl,rfl,hcF,hcG,HTF.out,HTG.out,MrgT.start HcF.out HcG.out,fun t h=>h,fun t h=>h,by have:=HLe.out.llen;omega,HS2.out⟩
  case round=>
   obtain ⟨A,B,out,aA,aB,ao,nA,cA,nB,cB,no,co,lo,rfl,rfl,HI⟩:=hrel;obtain ⟨hww,_⟩:Below w.heap.size w wr/\True:=⟨HW.out.bl.trans (HI.out.st.bl.mono HW.out.bl.size),trivial⟩
   cases A with
   | nil=>
    obtain rfl:nA=0:=by have:=HI.out.lA;simpa using this.symm
    cases B with
    | nil=>
     obtain rfl:nB=0:=by have:=HI.out.lB;simpa using this.symm
     obtain ⟨x0,x1,x2,x3,xf,xlt⟩:=HI.out.st.ob;obtain ⟨r0,r1,r2,r3,rf,rlt⟩:=(HW.out.below HI.out.st.bl).rb;go_wp2;exact bodyPost_ret (v:=.agg #[.slice ao no co,.bool (ratL qc).neg,.slice rn (ratL qc).num.length rcn,.slice rd (ratL qc).den.length rcd]) (by simp [results,Tryz.results93,go_sem,r0,r1,r2,r3]) rfl (HI.out.post HW.out HQc.out)
    | cons tv B'=>
     obtain ⟨v,z⟩:=tv;obtain ⟨bB,oB,zn,zd,zcn,zcd,rfl,hbB,fB0,fB1,fB2,fB3,hvB,htB⟩:=TermsAt.head HI.out.tB;have cB0:=(hww.cell (p:=⟨bB,oB,none⟩) hbB).trans fB0;have cB1:=(hww.cell (p:=⟨bB,oB+1,none⟩) hbB).trans fB1;have cB2:=(hww.cell (p:=⟨bB,oB+2,none⟩) hbB).trans fB2;have cB3:=(hww.cell (p:=⟨bB,oB+3,none⟩) hbB).trans fB3;have hbB2:=Nat.lt_of_lt_of_le hbB hww.size;obtain ⟨HVB,HRB⟩:=hd2 hvB htB;have nB1:0 < nB:=by have:=HI.out.lB;rw [List.length_cons] at this;omega
     have tB:decide ((0:Int) < (nB:Int))=true:=decide_eq_true (by omega);have tB':decide (0 < nB)=true:=decide_eq_true (by omega);have eB:((nB:Int)==0)=false:=by rw [beq_eq_false_iff_ne];omega
     have eB':¬ nB=0:=by omega
     clear hvB htB;have cl0:=HI.out.cA';have cl1:=HI.out.cB'
     go_upto_region 6 with fail
     go_quiet (fail)
     have HS3:=hid (HI.out.st.below (below_drewN (Below.refl _ _) nq));generalize wr.drewN nq=w3 at *;have hw3:=hid (HW.out.bl.trans (HS3.out.bl.mono HW.out.bl.size))
     go_upto_region 9 with fail
     go_quiet (fail)
     have HS3:=hid (HS3.out.below (below_drewN (Below.refl _ _) nq));generalize w3.drewN nq=w3' at *;clear hw3;have hw3:=hid (HW.out.bl.trans (HS3.out.bl.mono HW.out.bl.size))
     go_upto_region 10 with fail
     have HM10:Hid (∀ X,Below w3'.heap.size w3' X->Calls Tryz.prog 134 #[.agg #[.bool (ratL z).neg,.slice zn (ratL z).num.length zcn,.slice zd (ratL z).den.length zcd],.agg #[.bool (ratL k).neg,.slice kn (ratL k).num.length kcn,.slice kd (ratL k).den.length kcd]] X (RetR X (ratL (z * k)))):=fun X hb=>by
      have hb2:=hw3.out.trans (hb.mono hw3.out.size);have h:=rMul (HVB.out.below hb2) (HKc.out.below hb2) (HLe.out.lgt _ (HI.out.mB _ List.mem_cons_self)) HLe.out.lk;rw [ratOf_ratL,ratOf_ratL] at h;exact h
     refine wp_region_slots_tail 11 (by kernel_rfl) (by kernel_rfl) (by kernel_rfl) (by kernel_rfl) (by decide) (From w3'.heap.size w3') (fun w w'=>Below w.heap.size w w') (GQ [.val (.agg #[.slice ao no co,.bool (ratL qc).neg,.slice rn (ratL qc).num.length rcn,.slice rd (ratL qc).den.length rcd]),.val (.slice (some ⟨bB,oB,none⟩) nB cB),.val (.pointer (some ⟨bB,oB,none⟩)),.val (.pointer (some ⟨bB,oB,none⟩)),.val (.int .i64 (v:Int)),.val (.slice (some ⟨bB,oB,none⟩) nB cB),.val (.pointer (some ⟨bB,oB,none⟩)),.val (.pointer (some ⟨bB,oB+1,none⟩)),.val (.agg #[.bool (ratL z).neg,.slice zn (ratL z).num.length zcn,.slice zd (ratL z).den.length zcd]),.val (.agg #[.bool (ratL k).neg,.slice kn (ratL k).num.length kcn,.slice kd (ratL k).den.length kcd]),.rat (z * k)]) (fun i v w w' h hb=>GQ_below h hb) (From.start (Nat.le_refl _)) ?_ ?_
     ·intro ops;simp only [List.take_succ_cons,List.take_zero,Shows]
      refine ⟨?v0,?v1,?v2,?v3,?v4,?v5,?v6,?v7,?v8,?v9,?_,trivial⟩
      all_goals (intro y X hR hL;have hB:=hR.base;have HSW:=hid (HS3.out.below hR.be);obtain ⟨x0,x1,x2,x3,xf,xlt⟩:=HSW.out.ob;have hwW:=htr hw3 hR.be;have dB0:=(hwW.out.cell (p:=⟨bB,oB,none⟩) hbB).trans fB0;have dB1:=(hwW.out.cell (p:=⟨bB,oB+1,none⟩) hbB).trans fB1;have dB2:=(hwW.out.cell (p:=⟨bB,oB+2,none⟩) hbB).trans fB2;have dB3:=(hwW.out.cell (p:=⟨bB,oB+3,none⟩) hbB).trans fB3;have hbB3:=Nat.lt_of_lt_of_le hbB hwW.out.size;obtain ⟨k0,k1,k2,_,kt⟩:=(HW.out.below HSW.out.bl).cb;simp only [Laid,Region.binds,forall_const,Bool.false_eq_true,false_implies,GQ,List.getElem?_cons_zero,List.getElem?_cons_succ] at hL;simp [fillFrom,Act.put])
      case v0|v1|v2|v3|v4|v5|v6|v7|v8|v9=>
       try simp only [hL]
       clear hL;have HR:=hid hR;clear hR;go_wp2;exact ⟨_,rfl,HR.out,Below.refl _ _,rfl⟩
      ·try simp only [hL]
       clear hL;have HR:=hid hR;clear hR;have HCt:=hid (HM10.out X HR.out.be)
       go_wp2_with fail
       refine HCt.out.mono ?_
       rintro e w1 ⟨v1,rfl,kv,kb⟩;obtain ⟨KV,KB⟩:=hd2 kv kb;clear kv kb HCt;go_wp2;exact ⟨_,rfl,⟨Nat.le_trans HR.out.base KB.out.size,HR.out.be.trans (KB.out.mono HR.out.base)⟩,KB.out,KV.out⟩
     ·intro ops y X hR hL;have hB:=hR.base;have J0:=hL.1.1.1.1.1.1.1.1.1.1.2;have J4:=hL.1.1.1.1.1.1.2;have J10:=hL.2;simp only [GQ,List.getElem?_cons_zero,List.getElem?_cons_succ] at J0 J4 J10;have HSW:=hid (HS3.out.below hR.be);obtain ⟨x0,x1,x2,x3,xf,xlt⟩:=HSW.out.ob;have hwW:=htr hw3 hR.be;have dB0:=(hwW.out.cell (p:=⟨bB,oB,none⟩) hbB).trans fB0;have dB1:=(hwW.out.cell (p:=⟨bB,oB+1,none⟩) hbB).trans fB1;have dB2:=(hwW.out.cell (p:=⟨bB,oB+2,none⟩) hbB).trans fB2;have dB3:=(hwW.out.cell (p:=⟨bB,oB+3,none⟩) hbB).trans fB3;have hbB3:=Nat.lt_of_lt_of_le hbB hwW.out.size;obtain ⟨k0,k1,k2,_,kt⟩:=(HW.out.below HSW.out.bl).cb;clear hL;simp only [List.take_succ_cons,List.take_zero,List.drop_succ_cons,List.drop_zero];simp [fillFrom,Act.put];generalize y 0=y0 at J0 ⊢;obtain rfl:=J0;generalize y 4=y4 at J4 ⊢;obtain rfl:=J4;generalize y 10=y10 at J10 ⊢;have HR:=hid hR;clear hR;have HZ:=hid J10;have hfew:=HI.out.few;have HPut:=hid (lPut (b0:=(ratL qc).neg) (an:=rn) (ad:=rd) (nn:=(ratL qc).num.length) (cn:=rcn) (nd:=(ratL qc).den.length) (cd:=rcd) (v:=v) HSW.out.own HI.out.lo' HSW.out.le HZ.out (RatLe.mono (HLe.out.lgtk _ (HI.out.mB _ List.mem_cons_self)) (by omega)) (by omega));clear hfew x0 x1 x2 x3 xf xlt
      go_wp2_with fail
      refine HPut.out.mono ?_
      rintro ee w5 ⟨a5,c5,rfl,ho5,hb5⟩;obtain ⟨HS5,HL5⟩:=hd2 (HSW.out.put ho5 hb5) (putT_len out v (z * k));obtain ⟨x0,x1,x2,x3,xf,xlt⟩:=HSW.out.ob.belowB hb5 HSW.out.lt;clear ho5 hb5 HPut;have HT5:=hid (rfl:putT out v (z * k)=putT out v (z * k));generalize hn5:(putT out v (z * k)).length=n5 at *;have Hn5:=hid hn5;clear hn5
      go_upto_region 11 with fail
      generalize ((((w5.setCell ⟨b,0,none⟩ (.slice a5 n5 c5)).setCell ⟨b,1,none⟩ (.bool (ratL qc).neg)).setCell ⟨b,2,none⟩ (.slice rn (ratL qc).num.length rcn)).setCell ⟨b,3,none⟩ (.slice rd (ratL qc).den.length rcd))=w6 at *;clear x0 x1 x2 x3 xf xlt
      by_cases h1:1 < cB
      ·go_wp2;exact ⟨⟨[],B',putT out v (z * k),_,_,a5,0,cA,nB - 1,cB - 1,n5,c5,v+1,rfl,rfl,HI.out.right HS5.out Hn5.out HRB.out trivial⟩,by simp only [lenV];omega⟩
      ·go_wp2;exact ⟨⟨[],B',putT out v (z * k),_,_,a5,0,cA,nB - 1,cB - 1,n5,c5,v+1,rfl,rfl,HI.out.right HS5.out Hn5.out (HI.out.emptyB h1) trivial⟩,by simp only [lenV];omega⟩
   | cons tu A'=>
    obtain ⟨u,p⟩:=tu;obtain ⟨bA,oA,pn,pd,pcn,pcd,rfl,hbA,fA0,fA1,fA2,fA3,hvA,htA⟩:=TermsAt.head HI.out.tA;have cA0:=(hww.cell (p:=⟨bA,oA,none⟩) hbA).trans fA0;have cA1:=(hww.cell (p:=⟨bA,oA+1,none⟩) hbA).trans fA1;have cA2:=(hww.cell (p:=⟨bA,oA+2,none⟩) hbA).trans fA2;have cA3:=(hww.cell (p:=⟨bA,oA+3,none⟩) hbA).trans fA3;have hbA2:=Nat.lt_of_lt_of_le hbA hww.size;obtain ⟨HVA,HRA⟩:=hd2 hvA htA;have nA1:0 < nA:=by have:=HI.out.lA;rw [List.length_cons] at this;omega
    have tA:decide ((0:Int) < (nA:Int))=true:=decide_eq_true (by omega);have tA':decide (0 < nA)=true:=decide_eq_true (by omega);have eA:((nA:Int)==0)=false:=by rw [beq_eq_false_iff_ne];omega
    have eA':¬ nA=0:=by omega
    clear hvA htA
    cases B with
    | nil=>
     obtain rfl:nB=0:=by have:=HI.out.lB;simpa using this.symm
     have cl0:=HI.out.cA';have cl1:=HI.out.cB'
     go_upto_region 6 with fail
     go_quiet (fail)
     have HS3:=hid (HI.out.st.below (below_drewN (Below.refl _ _) nq));generalize wr.drewN nq=w3 at *;have hw3:=hid (HW.out.bl.trans (HS3.out.bl.mono HW.out.bl.size))
     go_upto_region 7 with fail
     refine wp_region_slots_tail 9 (by kernel_rfl) (by kernel_rfl) (by kernel_rfl) (by kernel_rfl) (by decide) (From w3.heap.size w3) (fun w w'=>Below w.heap.size w w') (GQ [.val (.agg #[.slice ao no co,.bool (ratL qc).neg,.slice rn (ratL qc).num.length rcn,.slice rd (ratL qc).den.length rcd]),.val (.slice (some ⟨bA,oA,none⟩) nA cA),.val (.pointer (some ⟨bA,oA,none⟩)),.val (.pointer (some ⟨bA,oA,none⟩)),.val (.int .i64 (u:Int)),.val (.slice (some ⟨bA,oA,none⟩) nA cA),.val (.pointer (some ⟨bA,oA,none⟩)),.val (.pointer (some ⟨bA,oA+1,none⟩)),.val (.agg #[.bool (ratL p).neg,.slice pn (ratL p).num.length pcn,.slice pd (ratL p).den.length pcd])]) (fun i v w w' h hb=>GQ_below h hb) (From.start (Nat.le_refl _)) ?_ ?_
     ·intro ops;simp only [List.take_succ_cons,List.take_zero,Shows]
      refine ⟨?v0,?v1,?v2,?v3,?v4,?v5,?v6,?v7,?v8,trivial⟩
      all_goals (intro y X hR hL;have hB:=hR.base;have HSW:=hid (HS3.out.below hR.be);obtain ⟨x0,x1,x2,x3,xf,xlt⟩:=HSW.out.ob;have hwW:=htr hw3 hR.be;have dA0:=(hwW.out.cell (p:=⟨bA,oA,none⟩) hbA).trans fA0;have dA1:=(hwW.out.cell (p:=⟨bA,oA+1,none⟩) hbA).trans fA1;have dA2:=(hwW.out.cell (p:=⟨bA,oA+2,none⟩) hbA).trans fA2;have dA3:=(hwW.out.cell (p:=⟨bA,oA+3,none⟩) hbA).trans fA3;have hbA3:=Nat.lt_of_lt_of_le hbA hwW.out.size;simp only [Laid,Region.binds,forall_const,Bool.false_eq_true,false_implies,GQ,List.getElem?_cons_zero,List.getElem?_cons_succ] at hL;simp [fillFrom,Act.put])
      case v0|v1|v2|v3|v4|v5|v6|v7|v8=>
       try simp only [hL]
       clear hL;have HR:=hid hR;clear hR;go_wp2;exact ⟨_,rfl,HR.out,Below.refl _ _,rfl⟩
     ·intro ops y X hR hL;have hB:=hR.base;have J0:=hL.1.1.1.1.1.1.1.1.2;have J4:=hL.1.1.1.1.2;have J8:=hL.2;simp only [GQ,List.getElem?_cons_zero,List.getElem?_cons_succ] at J0 J4 J8;have HSW:=hid (HS3.out.below hR.be);obtain ⟨x0,x1,x2,x3,xf,xlt⟩:=HSW.out.ob;have hwW:=htr hw3 hR.be;have dA0:=(hwW.out.cell (p:=⟨bA,oA,none⟩) hbA).trans fA0;have dA1:=(hwW.out.cell (p:=⟨bA,oA+1,none⟩) hbA).trans fA1;have dA2:=(hwW.out.cell (p:=⟨bA,oA+2,none⟩) hbA).trans fA2;have dA3:=(hwW.out.cell (p:=⟨bA,oA+3,none⟩) hbA).trans fA3;have hbA3:=Nat.lt_of_lt_of_le hbA hwW.out.size;clear hL;simp only [List.take_succ_cons,List.take_zero,List.drop_succ_cons,List.drop_zero];simp [fillFrom,Act.put];generalize y 0=y0 at J0 ⊢;obtain rfl:=J0;generalize y 4=y4 at J4 ⊢;obtain rfl:=J4;generalize y 8=y8 at J8 ⊢;obtain rfl:=J8;have HR:=hid hR;clear hR;have hfew:=HI.out.few;have HPut:=hid (lPut (b0:=(ratL qc).neg) (an:=rn) (ad:=rd) (nn:=(ratL qc).num.length) (cn:=rcn) (nd:=(ratL qc).den.length) (cd:=rcd) (v:=u) HSW.out.own HI.out.lo' HSW.out.le (HVA.out.below hwW.out) (RatLe.mono (HLe.out.lft _ (HI.out.mA _ List.mem_cons_self)) (by omega)) (by omega));clear hfew x0 x1 x2 x3 xf xlt
      go_wp2_with fail
      refine HPut.out.mono ?_
      rintro ee w5 ⟨a5,c5,rfl,ho5,hb5⟩;obtain ⟨HS5,HL5⟩:=hd2 (HSW.out.put ho5 hb5) (putT_len out u p);obtain ⟨x0,x1,x2,x3,xf,xlt⟩:=HSW.out.ob.belowB hb5 HSW.out.lt;clear ho5 hb5 HPut;have HT5:=hid (rfl:putT out u p=putT out u p);generalize hn5:(putT out u p).length=n5 at *;have Hn5:=hid hn5;clear hn5
      go_upto_region 8 with fail
      generalize ((((w5.setCell ⟨b,0,none⟩ (.slice a5 n5 c5)).setCell ⟨b,1,none⟩ (.bool (ratL qc).neg)).setCell ⟨b,2,none⟩ (.slice rn (ratL qc).num.length rcn)).setCell ⟨b,3,none⟩ (.slice rd (ratL qc).den.length rcd))=w6 at *;clear x0 x1 x2 x3 xf xlt
      by_cases h1:1 < cA
      ·go_wp2;exact ⟨⟨A',[],putT out u p,_,_,a5,nA - 1,cA - 1,0,cB,n5,c5,u+1,rfl,rfl,HI.out.left HS5.out Hn5.out HRA.out trivial⟩,by simp only [lenV];omega⟩
      ·go_wp2;exact ⟨⟨A',[],putT out u p,_,_,a5,nA - 1,cA - 1,0,cB,n5,c5,u+1,rfl,rfl,HI.out.left HS5.out Hn5.out (HI.out.emptyA h1) trivial⟩,by simp only [lenV];omega⟩
    | cons tv B'=>
     obtain ⟨v,z⟩:=tv;obtain ⟨bB,oB,zn,zd,zcn,zcd,rfl,hbB,fB0,fB1,fB2,fB3,hvB,htB⟩:=TermsAt.head HI.out.tB;have cB0:=(hww.cell (p:=⟨bB,oB,none⟩) hbB).trans fB0;have cB1:=(hww.cell (p:=⟨bB,oB+1,none⟩) hbB).trans fB1;have cB2:=(hww.cell (p:=⟨bB,oB+2,none⟩) hbB).trans fB2;have cB3:=(hww.cell (p:=⟨bB,oB+3,none⟩) hbB).trans fB3;have hbB2:=Nat.lt_of_lt_of_le hbB hww.size;obtain ⟨HVB,HRB⟩:=hd2 hvB htB;have nB1:0 < nB:=by have:=HI.out.lB;rw [List.length_cons] at this;omega
     have tB:decide ((0:Int) < (nB:Int))=true:=decide_eq_true (by omega);have tB':decide (0 < nB)=true:=decide_eq_true (by omega);have eB:((nB:Int)==0)=false:=by rw [beq_eq_false_iff_ne];omega
     have eB':¬ nB=0:=by omega
     clear hvB htB
     rcases Nat.lt_trichotomy u v with hlt | heq | hgt
     ·have tq:decide ((u:Int) < (v:Int))=true:=decide_eq_true (by omega);have cl0:=HI.out.cA';have cl1:=HI.out.cB'
      go_upto_region 6 with fail
      go_quiet (fail)
      have HS3:=hid (HI.out.st.below (below_drewN (Below.refl _ _) nq));generalize wr.drewN nq=w3 at *;have hw3:=hid (HW.out.bl.trans (HS3.out.bl.mono HW.out.bl.size))
      go_upto_region 7 with fail
      refine wp_region_slots_tail 9 (by kernel_rfl) (by kernel_rfl) (by kernel_rfl) (by kernel_rfl) (by decide) (From w3.heap.size w3) (fun w w'=>Below w.heap.size w w') (GQ [.val (.agg #[.slice ao no co,.bool (ratL qc).neg,.slice rn (ratL qc).num.length rcn,.slice rd (ratL qc).den.length rcd]),.val (.slice (some ⟨bA,oA,none⟩) nA cA),.val (.pointer (some ⟨bA,oA,none⟩)),.val (.pointer (some ⟨bA,oA,none⟩)),.val (.int .i64 (u:Int)),.val (.slice (some ⟨bA,oA,none⟩) nA cA),.val (.pointer (some ⟨bA,oA,none⟩)),.val (.pointer (some ⟨bA,oA+1,none⟩)),.val (.agg #[.bool (ratL p).neg,.slice pn (ratL p).num.length pcn,.slice pd (ratL p).den.length pcd])]) (fun i v w w' h hb=>GQ_below h hb) (From.start (Nat.le_refl _)) ?_ ?_
      ·intro ops;simp only [List.take_succ_cons,List.take_zero,Shows]
       refine ⟨?v0,?v1,?v2,?v3,?v4,?v5,?v6,?v7,?v8,trivial⟩
       all_goals (intro y X hR hL;have hB:=hR.base;have HSW:=hid (HS3.out.below hR.be);obtain ⟨x0,x1,x2,x3,xf,xlt⟩:=HSW.out.ob;have hwW:=htr hw3 hR.be;have dA0:=(hwW.out.cell (p:=⟨bA,oA,none⟩) hbA).trans fA0;have dA1:=(hwW.out.cell (p:=⟨bA,oA+1,none⟩) hbA).trans fA1;have dA2:=(hwW.out.cell (p:=⟨bA,oA+2,none⟩) hbA).trans fA2;have dA3:=(hwW.out.cell (p:=⟨bA,oA+3,none⟩) hbA).trans fA3;have hbA3:=Nat.lt_of_lt_of_le hbA hwW.out.size;simp only [Laid,Region.binds,forall_const,Bool.false_eq_true,false_implies,GQ,List.getElem?_cons_zero,List.getElem?_cons_succ] at hL;simp [fillFrom,Act.put])
       case v0|v1|v2|v3|v4|v5|v6|v7|v8=>
        try simp only [hL]
        clear hL;have HR:=hid hR;clear hR;go_wp2;exact ⟨_,rfl,HR.out,Below.refl _ _,rfl⟩
      ·intro ops y X hR hL;have hB:=hR.base;have J0:=hL.1.1.1.1.1.1.1.1.2;have J4:=hL.1.1.1.1.2;have J8:=hL.2;simp only [GQ,List.getElem?_cons_zero,List.getElem?_cons_succ] at J0 J4 J8;have HSW:=hid (HS3.out.below hR.be);obtain ⟨x0,x1,x2,x3,xf,xlt⟩:=HSW.out.ob;have hwW:=htr hw3 hR.be;have dA0:=(hwW.out.cell (p:=⟨bA,oA,none⟩) hbA).trans fA0;have dA1:=(hwW.out.cell (p:=⟨bA,oA+1,none⟩) hbA).trans fA1;have dA2:=(hwW.out.cell (p:=⟨bA,oA+2,none⟩) hbA).trans fA2;have dA3:=(hwW.out.cell (p:=⟨bA,oA+3,none⟩) hbA).trans fA3;have hbA3:=Nat.lt_of_lt_of_le hbA hwW.out.size;clear hL;simp only [List.take_succ_cons,List.take_zero,List.drop_succ_cons,List.drop_zero];simp [fillFrom,Act.put];generalize y 0=y0 at J0 ⊢;obtain rfl:=J0;generalize y 4=y4 at J4 ⊢;obtain rfl:=J4;generalize y 8=y8 at J8 ⊢;obtain rfl:=J8;have HR:=hid hR;clear hR;have hfew:=HI.out.few;have HPut:=hid (lPut (b0:=(ratL qc).neg) (an:=rn) (ad:=rd) (nn:=(ratL qc).num.length) (cn:=rcn) (nd:=(ratL qc).den.length) (cd:=rcd) (v:=u) HSW.out.own HI.out.lo' HSW.out.le (HVA.out.below hwW.out) (RatLe.mono (HLe.out.lft _ (HI.out.mA _ List.mem_cons_self)) (by omega)) (by omega));clear hfew x0 x1 x2 x3 xf xlt
       go_wp2_with fail
       refine HPut.out.mono ?_
       rintro ee w5 ⟨a5,c5,rfl,ho5,hb5⟩;obtain ⟨HS5,HL5⟩:=hd2 (HSW.out.put ho5 hb5) (putT_len out u p);obtain ⟨x0,x1,x2,x3,xf,xlt⟩:=HSW.out.ob.belowB hb5 HSW.out.lt;clear ho5 hb5 HPut;have HT5:=hid (rfl:putT out u p=putT out u p);generalize hn5:(putT out u p).length=n5 at *;have Hn5:=hid hn5;clear hn5
       go_upto_region 8 with fail
       generalize ((((w5.setCell ⟨b,0,none⟩ (.slice a5 n5 c5)).setCell ⟨b,1,none⟩ (.bool (ratL qc).neg)).setCell ⟨b,2,none⟩ (.slice rn (ratL qc).num.length rcn)).setCell ⟨b,3,none⟩ (.slice rd (ratL qc).den.length rcd))=w6 at *;clear x0 x1 x2 x3 xf xlt
       by_cases h1:1 < cA
       ·go_wp2;exact ⟨⟨A',(v,z)::B',putT out u p,_,_,a5,nA - 1,cA - 1,nB,cB,n5,c5,u+1,rfl,rfl,HI.out.left HS5.out Hn5.out HRA.out (HI.out.upB hlt)⟩,by simp only [lenV];omega⟩
       ·go_wp2;exact ⟨⟨A',(v,z)::B',putT out u p,_,_,a5,nA - 1,cA - 1,nB,cB,n5,c5,u+1,rfl,rfl,HI.out.left HS5.out Hn5.out (HI.out.emptyA h1) (HI.out.upB hlt)⟩,by simp only [lenV];omega⟩
     ·subst heq;have tq:decide ((u:Int) < (u:Int))=false:=decide_eq_false (by omega);have cl0:=HI.out.cA';have cl1:=HI.out.cB'
      go_upto_region 6 with fail
      go_quiet (fail)
      have HS3:=hid (HI.out.st.below (below_drewN (Below.refl _ _) nq));generalize wr.drewN nq=w3 at *;have hw3:=hid (HW.out.bl.trans (HS3.out.bl.mono HW.out.bl.size));have gA0:=(hw3.out.cell (p:=⟨bA,oA,none⟩) hbA).trans fA0;have hbA4:=Nat.lt_of_lt_of_le hbA hw3.out.size;have gB0:=(hw3.out.cell (p:=⟨bB,oB,none⟩) hbB).trans fB0;have hbB4:=Nat.lt_of_lt_of_le hbB hw3.out.size
      go_upto_region 9 with fail
      go_quiet (fail)
      have HS3:=hid (HS3.out.below (below_drewN (Below.refl _ _) nq));generalize w3.drewN nq=w3' at *;clear hw3;have hw3:=hid (HW.out.bl.trans (HS3.out.bl.mono HW.out.bl.size))
      go_upto_region 4 with fail
      have HM10:Hid (∀ X,Below w3'.heap.size w3' X->Calls Tryz.prog 134 #[.agg #[.bool (ratL z).neg,.slice zn (ratL z).num.length zcn,.slice zd (ratL z).den.length zcd],.agg #[.bool (ratL k).neg,.slice kn (ratL k).num.length kcn,.slice kd (ratL k).den.length kcd]] X (RetR X (ratL (z * k)))):=fun X hb=>by
       have hb2:=hw3.out.trans (hb.mono hw3.out.size);have h:=rMul (HVB.out.below hb2) (HKc.out.below hb2) (HLe.out.lgt _ (HI.out.mB _ List.mem_cons_self)) HLe.out.lk;rw [ratOf_ratL,ratOf_ratL] at h;exact h
      have HA15:Hid (∀ X,Below w3'.heap.size w3' X->∀ x,RatV X x (ratL (z * k))->Calls Tryz.prog 133 #[.agg #[.bool (ratL p).neg,.slice pn (ratL p).num.length pcn,.slice pd (ratL p).den.length pcd],x] X (RetR X (ratL (p+z * k)))):=fun X hb x hx=>by
       have hb2:=hw3.out.trans (hb.mono hw3.out.size);have h:=rAdd (HVA.out.below hb2) hx (HLe.out.lft _ (HI.out.mA _ List.mem_cons_self)) (HLe.out.lgtk _ (HI.out.mB _ List.mem_cons_self));rw [ratOf_ratL,ratOf_ratL] at h;exact h
      refine wp_region_slots_tail 16 (by kernel_rfl) (by kernel_rfl) (by kernel_rfl) (by kernel_rfl) (by decide) (From w3'.heap.size w3') (fun w w'=>Below w.heap.size w w') (GQ [.val (.agg #[.slice ao no co,.bool (ratL qc).neg,.slice rn (ratL qc).num.length rcn,.slice rd (ratL qc).den.length rcd]),.val (.slice (some ⟨bA,oA,none⟩) nA cA),.val (.pointer (some ⟨bA,oA,none⟩)),.val (.pointer (some ⟨bA,oA,none⟩)),.val (.int .i64 (u:Int)),.val (.slice (some ⟨bA,oA,none⟩) nA cA),.val (.pointer (some ⟨bA,oA,none⟩)),.val (.pointer (some ⟨bA,oA+1,none⟩)),.val (.agg #[.bool (ratL p).neg,.slice pn (ratL p).num.length pcn,.slice pd (ratL p).den.length pcd]),.val (.slice (some ⟨bB,oB,none⟩) nB cB),.val (.pointer (some ⟨bB,oB,none⟩)),.val (.pointer (some ⟨bB,oB+1,none⟩)),.val (.agg #[.bool (ratL z).neg,.slice zn (ratL z).num.length zcn,.slice zd (ratL z).den.length zcd]),.val (.agg #[.bool (ratL k).neg,.slice kn (ratL k).num.length kcn,.slice kd (ratL k).den.length kcd]),.rat (z * k),.rat (p+z * k)]) (fun i v w w' h hb=>GQ_below h hb) (From.start (Nat.le_refl _)) ?_ ?_
      ·intro ops;simp only [List.take_succ_cons,List.take_zero,Shows]
       refine ⟨?v0,?v1,?v2,?v3,?v4,?v5,?v6,?v7,?v8,?v9,?v10,?v11,?v12,?v13,?_,?_,trivial⟩
       all_goals (intro y X hR hL;have hB:=hR.base;have HSW:=hid (HS3.out.below hR.be);obtain ⟨x0,x1,x2,x3,xf,xlt⟩:=HSW.out.ob;have hwW:=htr hw3 hR.be;have dA0:=(hwW.out.cell (p:=⟨bA,oA,none⟩) hbA).trans fA0;have dA1:=(hwW.out.cell (p:=⟨bA,oA+1,none⟩) hbA).trans fA1;have dA2:=(hwW.out.cell (p:=⟨bA,oA+2,none⟩) hbA).trans fA2;have dA3:=(hwW.out.cell (p:=⟨bA,oA+3,none⟩) hbA).trans fA3;have hbA3:=Nat.lt_of_lt_of_le hbA hwW.out.size;have dB0:=(hwW.out.cell (p:=⟨bB,oB,none⟩) hbB).trans fB0;have dB1:=(hwW.out.cell (p:=⟨bB,oB+1,none⟩) hbB).trans fB1;have dB2:=(hwW.out.cell (p:=⟨bB,oB+2,none⟩) hbB).trans fB2;have dB3:=(hwW.out.cell (p:=⟨bB,oB+3,none⟩) hbB).trans fB3;have hbB3:=Nat.lt_of_lt_of_le hbB hwW.out.size;obtain ⟨k0,k1,k2,_,kt⟩:=(HW.out.below HSW.out.bl).cb;simp only [Laid,Region.binds,forall_const,Bool.false_eq_true,false_implies,GQ,List.getElem?_cons_zero,List.getElem?_cons_succ] at hL;simp [fillFrom,Act.put])
       case v0|v1|v2|v3|v4|v5|v6|v7|v8|v9|v10|v11|v12|v13=>
        try simp only [hL]
        clear hL;have HR:=hid hR;clear hR;go_wp2;exact ⟨_,rfl,HR.out,Below.refl _ _,rfl⟩
       ·try simp only [hL]
        clear hL;have HR:=hid hR;clear hR;have HCt:=hid (HM10.out X HR.out.be)
        go_wp2_with fail
        refine HCt.out.mono ?_
        rintro e w1 ⟨v1,rfl,kv,kb⟩;obtain ⟨KV,KB⟩:=hd2 kv kb;clear kv kb HCt;go_wp2;exact ⟨_,rfl,⟨Nat.le_trans HR.out.base KB.out.size,HR.out.be.trans (KB.out.mono HR.out.base)⟩,KB.out,KV.out⟩
       ·generalize y 8=y8 at hL ⊢;generalize y 14=y14 at hL ⊢;obtain ⟨rfl,H14,_,_⟩:=hL;obtain ⟨K14,HR⟩:=hd2 H14 hR;clear hR H14;have HCt:=hid (HA15.out X HR.out.be _ K14.out)
        go_wp2_with fail
        refine HCt.out.mono ?_
        rintro e w1 ⟨v1,rfl,kv,kb⟩;obtain ⟨KV,KB⟩:=hd2 kv kb;clear kv kb HCt;go_wp2;exact ⟨_,rfl,⟨Nat.le_trans HR.out.base KB.out.size,HR.out.be.trans (KB.out.mono HR.out.base)⟩,KB.out,KV.out⟩
      ·intro ops y X hR hL;have hB:=hR.base;have J0:=hL.1.1.1.1.1.1.1.1.1.1.1.1.1.1.1.2;have J4:=hL.1.1.1.1.1.1.1.1.1.1.1.2;have J15:=hL.2;simp only [GQ,List.getElem?_cons_zero,List.getElem?_cons_succ] at J0 J4 J15;have HSW:=hid (HS3.out.below hR.be);obtain ⟨x0,x1,x2,x3,xf,xlt⟩:=HSW.out.ob;have hwW:=htr hw3 hR.be;have dA0:=(hwW.out.cell (p:=⟨bA,oA,none⟩) hbA).trans fA0;have dA1:=(hwW.out.cell (p:=⟨bA,oA+1,none⟩) hbA).trans fA1;have dA2:=(hwW.out.cell (p:=⟨bA,oA+2,none⟩) hbA).trans fA2;have dA3:=(hwW.out.cell (p:=⟨bA,oA+3,none⟩) hbA).trans fA3;have hbA3:=Nat.lt_of_lt_of_le hbA hwW.out.size;have dB0:=(hwW.out.cell (p:=⟨bB,oB,none⟩) hbB).trans fB0;have dB1:=(hwW.out.cell (p:=⟨bB,oB+1,none⟩) hbB).trans fB1;have dB2:=(hwW.out.cell (p:=⟨bB,oB+2,none⟩) hbB).trans fB2;have dB3:=(hwW.out.cell (p:=⟨bB,oB+3,none⟩) hbB).trans fB3;have hbB3:=Nat.lt_of_lt_of_le hbB hwW.out.size;obtain ⟨k0,k1,k2,_,kt⟩:=(HW.out.below HSW.out.bl).cb;clear hL;simp only [List.take_succ_cons,List.take_zero,List.drop_succ_cons,List.drop_zero];simp [fillFrom,Act.put];generalize y 0=y0 at J0 ⊢;obtain rfl:=J0;generalize y 4=y4 at J4 ⊢;obtain rfl:=J4;generalize y 15=y15 at J15 ⊢;have HR:=hid hR;clear hR;have HZ:=hid J15;have hfew:=HI.out.few;have HPut:=hid (lPut (b0:=(ratL qc).neg) (an:=rn) (ad:=rd) (nn:=(ratL qc).num.length) (cn:=rcn) (nd:=(ratL qc).den.length) (cd:=rcd) (v:=u) HSW.out.own HI.out.lo' HSW.out.le HZ.out (RatLe.mono (HLe.out.lsum _ (HI.out.mA _ List.mem_cons_self) _ (HI.out.mB _ List.mem_cons_self)) (by omega)) (by omega));clear hfew x0 x1 x2 x3 xf xlt
       go_wp2_with fail
       refine HPut.out.mono ?_
       rintro ee w5 ⟨a5,c5,rfl,ho5,hb5⟩;obtain ⟨HS5,HL5⟩:=hd2 (HSW.out.put ho5 hb5) (putT_len out u (p+z * k));obtain ⟨x0,x1,x2,x3,xf,xlt⟩:=HSW.out.ob.belowB hb5 HSW.out.lt;clear ho5 hb5 HPut;have HT5:=hid (rfl:putT out u (p+z * k)=putT out u (p+z * k));generalize hn5:(putT out u (p+z * k)).length=n5 at *;have Hn5:=hid hn5;clear hn5
       go_upto_region 5 with fail
       generalize ((((w5.setCell ⟨b,0,none⟩ (.slice a5 n5 c5)).setCell ⟨b,1,none⟩ (.bool (ratL qc).neg)).setCell ⟨b,2,none⟩ (.slice rn (ratL qc).num.length rcn)).setCell ⟨b,3,none⟩ (.slice rd (ratL qc).den.length rcd))=w6 at *;clear x0 x1 x2 x3 xf xlt
       by_cases h1:1 < cA
       ·by_cases h2:1 < cB
        ·go_quiet (fail)
         have HS6:=hid (HS5.out.below (below_drewN (Below.refl _ _) nq));generalize w6.drewN nq=w7 at *;go_wp2;exact ⟨⟨A',B',putT out u (p+z * k),_,_,a5,nA - 1,cA - 1,nB - 1,cB - 1,n5,c5,u+1,rfl,rfl,HI.out.both HS6.out Hn5.out (by first | exact HRA.out | (rw [if_neg (by omega)];exact HRA.out)) (by first | exact HRB.out | (rw [if_neg (by omega)];exact HRB.out))⟩,by simp only [lenV];omega⟩
        ·go_quiet (fail)
         have HS6:=hid (HS5.out.below (below_drewN (Below.refl _ _) nq));generalize w6.drewN nq=w7 at *;go_wp2;exact ⟨⟨A',B',putT out u (p+z * k),_,_,a5,nA - 1,cA - 1,nB - 1,cB - 1,n5,c5,u+1,rfl,rfl,HI.out.both HS6.out Hn5.out (by first | exact HRA.out | (rw [if_neg (by omega)];exact HRA.out)) (HI.out.emptyB h2)⟩,by simp only [lenV];omega⟩
       ·by_cases h2:1 < cB
        ·go_quiet (fail)
         have HS6:=hid (HS5.out.below (below_drewN (Below.refl _ _) nq));generalize w6.drewN nq=w7 at *;go_wp2;exact ⟨⟨A',B',putT out u (p+z * k),_,_,a5,nA - 1,cA - 1,nB - 1,cB - 1,n5,c5,u+1,rfl,rfl,HI.out.both HS6.out Hn5.out (HI.out.emptyA h1) (by first | exact HRB.out | (rw [if_neg (by omega)];exact HRB.out))⟩,by simp only [lenV];omega⟩
        ·go_quiet (fail)
         have HS6:=hid (HS5.out.below (below_drewN (Below.refl _ _) nq));generalize w6.drewN nq=w7 at *;go_wp2;exact ⟨⟨A',B',putT out u (p+z * k),_,_,a5,nA - 1,cA - 1,nB - 1,cB - 1,n5,c5,u+1,rfl,rfl,HI.out.both HS6.out Hn5.out (HI.out.emptyA h1) (HI.out.emptyB h2)⟩,by simp only [lenV];omega⟩
     ·have tq:decide ((u:Int) < (v:Int))=false:=decide_eq_false (by omega);have tq2:decide ((v:Int) < (u:Int))=true:=decide_eq_true (by omega);have tq':decide (u < v)=false:=decide_eq_false (by omega);have tq2':decide (v < u)=true:=decide_eq_true (by omega);have cl0:=HI.out.cA';have cl1:=HI.out.cB'
      go_upto_region 6 with fail
      go_quiet (fail)
      have HS3:=hid (HI.out.st.below (below_drewN (Below.refl _ _) nq));generalize wr.drewN nq=w3 at *;have hw3:=hid (HW.out.bl.trans (HS3.out.bl.mono HW.out.bl.size));have gA0:=(hw3.out.cell (p:=⟨bA,oA,none⟩) hbA).trans fA0;have hbA4:=Nat.lt_of_lt_of_le hbA hw3.out.size;have gB0:=(hw3.out.cell (p:=⟨bB,oB,none⟩) hbB).trans fB0;have hbB4:=Nat.lt_of_lt_of_le hbB hw3.out.size
      go_upto_region 9 with fail
      go_quiet (fail)
      have HS3:=hid (HS3.out.below (below_drewN (Below.refl _ _) nq));generalize w3.drewN nq=w3' at *;clear hw3;have hw3:=hid (HW.out.bl.trans (HS3.out.bl.mono HW.out.bl.size))
      go_upto_region 10 with fail
      have HM10:Hid (∀ X,Below w3'.heap.size w3' X->Calls Tryz.prog 134 #[.agg #[.bool (ratL z).neg,.slice zn (ratL z).num.length zcn,.slice zd (ratL z).den.length zcd],.agg #[.bool (ratL k).neg,.slice kn (ratL k).num.length kcn,.slice kd (ratL k).den.length kcd]] X (RetR X (ratL (z * k)))):=fun X hb=>by
       have hb2:=hw3.out.trans (hb.mono hw3.out.size);have h:=rMul (HVB.out.below hb2) (HKc.out.below hb2) (HLe.out.lgt _ (HI.out.mB _ List.mem_cons_self)) HLe.out.lk;rw [ratOf_ratL,ratOf_ratL] at h;exact h
      refine wp_region_slots_tail 11 (by kernel_rfl) (by kernel_rfl) (by kernel_rfl) (by kernel_rfl) (by decide) (From w3'.heap.size w3') (fun w w'=>Below w.heap.size w w') (GQ [.val (.agg #[.slice ao no co,.bool (ratL qc).neg,.slice rn (ratL qc).num.length rcn,.slice rd (ratL qc).den.length rcd]),.val (.slice (some ⟨bB,oB,none⟩) nB cB),.val (.pointer (some ⟨bB,oB,none⟩)),.val (.pointer (some ⟨bB,oB,none⟩)),.val (.int .i64 (v:Int)),.val (.slice (some ⟨bB,oB,none⟩) nB cB),.val (.pointer (some ⟨bB,oB,none⟩)),.val (.pointer (some ⟨bB,oB+1,none⟩)),.val (.agg #[.bool (ratL z).neg,.slice zn (ratL z).num.length zcn,.slice zd (ratL z).den.length zcd]),.val (.agg #[.bool (ratL k).neg,.slice kn (ratL k).num.length kcn,.slice kd (ratL k).den.length kcd]),.rat (z * k)]) (fun i v w w' h hb=>GQ_below h hb) (From.start (Nat.le_refl _)) ?_ ?_
      ·intro ops;simp only [List.take_succ_cons,List.take_zero,Shows]
       refine ⟨?v0,?v1,?v2,?v3,?v4,?v5,?v6,?v7,?v8,?v9,?_,trivial⟩
       all_goals (intro y X hR hL;have hB:=hR.base;have HSW:=hid (HS3.out.below hR.be);obtain ⟨x0,x1,x2,x3,xf,xlt⟩:=HSW.out.ob;have hwW:=htr hw3 hR.be;have dB0:=(hwW.out.cell (p:=⟨bB,oB,none⟩) hbB).trans fB0;have dB1:=(hwW.out.cell (p:=⟨bB,oB+1,none⟩) hbB).trans fB1;have dB2:=(hwW.out.cell (p:=⟨bB,oB+2,none⟩) hbB).trans fB2;have dB3:=(hwW.out.cell (p:=⟨bB,oB+3,none⟩) hbB).trans fB3;have hbB3:=Nat.lt_of_lt_of_le hbB hwW.out.size;obtain ⟨k0,k1,k2,_,kt⟩:=(HW.out.below HSW.out.bl).cb;simp only [Laid,Region.binds,forall_const,Bool.false_eq_true,false_implies,GQ,List.getElem?_cons_zero,List.getElem?_cons_succ] at hL;simp [fillFrom,Act.put])
       case v0|v1|v2|v3|v4|v5|v6|v7|v8|v9=>
        try simp only [hL]
        clear hL;have HR:=hid hR;clear hR;go_wp2;exact ⟨_,rfl,HR.out,Below.refl _ _,rfl⟩
       ·try simp only [hL]
        clear hL;have HR:=hid hR;clear hR;have HCt:=hid (HM10.out X HR.out.be)
        go_wp2_with fail
        refine HCt.out.mono ?_
        rintro e w1 ⟨v1,rfl,kv,kb⟩;obtain ⟨KV,KB⟩:=hd2 kv kb;clear kv kb HCt;go_wp2;exact ⟨_,rfl,⟨Nat.le_trans HR.out.base KB.out.size,HR.out.be.trans (KB.out.mono HR.out.base)⟩,KB.out,KV.out⟩
      ·intro ops y X hR hL;have hB:=hR.base;have J0:=hL.1.1.1.1.1.1.1.1.1.1.2;have J4:=hL.1.1.1.1.1.1.2;have J10:=hL.2;simp only [GQ,List.getElem?_cons_zero,List.getElem?_cons_succ] at J0 J4 J10;have HSW:=hid (HS3.out.below hR.be);obtain ⟨x0,x1,x2,x3,xf,xlt⟩:=HSW.out.ob;have hwW:=htr hw3 hR.be;have dB0:=(hwW.out.cell (p:=⟨bB,oB,none⟩) hbB).trans fB0;have dB1:=(hwW.out.cell (p:=⟨bB,oB+1,none⟩) hbB).trans fB1;have dB2:=(hwW.out.cell (p:=⟨bB,oB+2,none⟩) hbB).trans fB2;have dB3:=(hwW.out.cell (p:=⟨bB,oB+3,none⟩) hbB).trans fB3;have hbB3:=Nat.lt_of_lt_of_le hbB hwW.out.size;obtain ⟨k0,k1,k2,_,kt⟩:=(HW.out.below HSW.out.bl).cb;clear hL;simp only [List.take_succ_cons,List.take_zero,List.drop_succ_cons,List.drop_zero];simp [fillFrom,Act.put];generalize y 0=y0 at J0 ⊢;obtain rfl:=J0;generalize y 4=y4 at J4 ⊢;obtain rfl:=J4;generalize y 10=y10 at J10 ⊢;have HR:=hid hR;clear hR;have HZ:=hid J10;have hfew:=HI.out.few;have HPut:=hid (lPut (b0:=(ratL qc).neg) (an:=rn) (ad:=rd) (nn:=(ratL qc).num.length) (cn:=rcn) (nd:=(ratL qc).den.length) (cd:=rcd) (v:=v) HSW.out.own HI.out.lo' HSW.out.le HZ.out (RatLe.mono (HLe.out.lgtk _ (HI.out.mB _ List.mem_cons_self)) (by omega)) (by omega));clear hfew x0 x1 x2 x3 xf xlt
       go_wp2_with fail
       refine HPut.out.mono ?_
       rintro ee w5 ⟨a5,c5,rfl,ho5,hb5⟩;obtain ⟨HS5,HL5⟩:=hd2 (HSW.out.put ho5 hb5) (putT_len out v (z * k));obtain ⟨x0,x1,x2,x3,xf,xlt⟩:=HSW.out.ob.belowB hb5 HSW.out.lt;clear ho5 hb5 HPut;have HT5:=hid (rfl:putT out v (z * k)=putT out v (z * k));generalize hn5:(putT out v (z * k)).length=n5 at *;have Hn5:=hid hn5;clear hn5
       go_upto_region 11 with fail
       generalize ((((w5.setCell ⟨b,0,none⟩ (.slice a5 n5 c5)).setCell ⟨b,1,none⟩ (.bool (ratL qc).neg)).setCell ⟨b,2,none⟩ (.slice rn (ratL qc).num.length rcn)).setCell ⟨b,3,none⟩ (.slice rd (ratL qc).den.length rcd))=w6 at *;clear x0 x1 x2 x3 xf xlt
       by_cases h1:1 < cB
       ·go_wp2;exact ⟨⟨(u,p)::A',B',putT out v (z * k),_,_,a5,nA,cA,nB - 1,cB - 1,n5,c5,v+1,rfl,rfl,HI.out.right HS5.out Hn5.out HRB.out (HI.out.upA hgt)⟩,by simp only [lenV];omega⟩
       ·go_wp2;exact ⟨⟨(u,p)::A',B',putT out v (z * k),_,_,a5,nA,cA,nB - 1,cB - 1,n5,c5,v+1,rfl,rfl,HI.out.right HS5.out Hn5.out (HI.out.emptyB h1) (HI.out.upA hgt)⟩,by simp only [lenV];omega⟩
end Go.Proofs.YtfgmmghmmfmdgaaGreat
