/-
  Contracts of the functions that the statement reaches: NBase, NatA, NatB, NatC, Ext, TenSpec, TenA, WinSpec, TenD.
-/
import Derived.Test.YtfgmmghmmfmdgaaGreatK1
import Derived.Test.YtfgmmghmmfmdgaaGreatK3
import Derived.Test.YtfgmmghmmfmdgaaGreatK0
set_option linter.all false
set_option maxRecDepth 100000
set_option maxHeartbeats 3200000
namespace Go.Proofs.YtfgmmghmmfmdgaaGreat
open Go.RowKit
open Go.Lib (hid)
structure U32s (w:World) (a:Option Addr) (l:List Nat):Prop where
 lim:Lim l
 len:l.length<=9223372036854775807
 row:l=[] ∨ ∃ b off,a=some ⟨b,off,none⟩/\b < w.heap.size/\∀ (j d:Nat),l[j]? =some d->w.cell? ⟨b,off+j,none⟩=some (.int .u32 (d:Int))
theorem U32s.nil (w:World) (a:Option Addr):U32s w a []:=⟨by intro d hd;simp at hd,by simp,.inl rfl⟩
theorem U32s.below {w w':World} {a:Option Addr} {l:List Nat} (h:U32s w a l) (hb:Below w.heap.size w w'):U32s w' a l:=by
 refine ⟨h.lim,h.len,h.row.imp id ?_⟩
 rintro ⟨b,off,rfl,hs,hc⟩;exact ⟨b,off,rfl,Nat.lt_of_lt_of_le hs hb.size,fun j d hj=>(hb.cell (p:=⟨b,off+j,none⟩) hs).trans (hc j d hj)⟩
theorem U32s.drewN {w:World} {a:Option Addr} {l:List Nat} (h:U32s w a l) (n:Nat):U32s (w.drewN n) a l:=⟨h.lim,h.len,h.row⟩
theorem U32s.pick {w:World} {a:Option Addr} {l:List Nat} (h:U32s w a l) {k:Nat} (hk:k < l.length):
  ∃ b off,a=some ⟨b,off,none⟩/\b < w.heap.size/\w.cell? ⟨b,off+k,none⟩=some (.int .u32 (dig l k:Int)):=by
 rcases h.row with rfl | ⟨b,off,rfl,hb,hc⟩
 ·simp at hk
 ·exact ⟨b,off,rfl,hb,hc k _ (at_dig hk)⟩
theorem U32s.open {w:World} {a:Option Addr} {l:List Nat} (h:U32s w a l) (hl:l ≠ []):
  ∃ b off,a=some ⟨b,off,none⟩/\b < w.heap.size/\∀ j,j < l.length->w.cell? ⟨b,off+j,none⟩=some (.int .u32 (dig l j:Int)):=by
 rcases h.row with rfl | ⟨b,off,rfl,hb,hc⟩
 ·exact absurd rfl hl
 ·exact ⟨b,off,rfl,hb,fun j hj=>hc j _ (at_dig hj)⟩
theorem U32s.take {w:World} {a:Option Addr} {l:List Nat} (h:U32s w a l) (n:Nat):U32s w a (l.take n):=by
 refine ⟨fun d hd=>h.lim d (List.mem_of_mem_take hd),by have:=h.len;simp;omega,?_⟩
 rcases h.row with rfl | ⟨b,off,rfl,hb,hc⟩
 ·left;simp
 ·right
  refine ⟨b,off,rfl,hb,fun j d hj=>hc j d ?_⟩
  rw [List.getElem?_take] at hj
  split at hj
  ·exact hj
  ·cases hj
theorem U32s.drop {w:World} {b off:Nat} {l:List Nat} (h:U32s w (some ⟨b,off,none⟩) l) (n:Nat):U32s w (some ⟨b,off+n,none⟩) (l.drop n):=by
 refine ⟨fun d hd=>h.lim d (List.mem_of_mem_drop hd),by have:=h.len;simp;omega,?_⟩
 rcases h.row with rfl | ⟨b',off',he,hb,hc⟩
 ·left;simp
 ·cases he
  right
  refine ⟨b,off+n,rfl,hb,fun j d hj=>?_⟩
  rw [List.getElem?_drop] at hj;have:=hc (n+j) d hj
  rwa [<- Nat.add_assoc] at this
def rowA (n:Nat) (f:Nat->Nat):Array Value:=((List.range n).map fun x=>Value.int .u32 (f x:Int)).toArray
def Blk (w:World) (g n:Nat) (f:Nat->Nat) (T:Nat):Prop:=w.heap[g]? =some (.cells (rowA n f) T (0,0))
theorem rowA_get (f:Nat->Nat) {n x:Nat} (hx:x < n):(rowA n f)[x]? =some (.int .u32 (f x:Int)):=by simp [rowA,hx]
theorem rowA_set (f:Nat->Nat) (n x v:Nat):(rowA n f).setIfInBounds x (.int .u32 (v:Int))=rowA n (fun y=>if y=x then v else f y):=by
 unfold rowA;rw [List.setIfInBounds_toArray]
 congr 1
 apply List.ext_getElem
 ·simp
 ·intro i h1 h2;rw [List.getElem_set]
  by_cases h:x=i
  ·subst h;simp
  ·simp [h,Ne.symm h]
theorem rowA_congr {f g:Nat->Nat} {n:Nat} (h:∀ i,i < n->f i=g i):rowA n f=rowA n g:=by
 unfold rowA
 congr 1
 exact List.map_congr_left (fun i hi=>by rw [h i (List.mem_range.1 hi)])
theorem Blk.lt {w:World} {g n:Nat} {f:Nat->Nat} {T:Nat} (h:Blk w g n f T):g < w.heap.size:=(Array.getElem?_eq_some_iff.1 h).1
theorem Blk.cell {w:World} {g n:Nat} {f:Nat->Nat} {T:Nat} (h:Blk w g n f T) {x:Nat} (hx:x < n):w.cell? ⟨g,x,none⟩=some (.int .u32 (f x:Int)):=by
 unfold Blk at h;simp [World.cell?,h,rowA_get f hx]
theorem Blk.free {w:World} {g n:Nat} {f:Nat->Nat} {T:Nat} (h:Blk w g n f T) (x:Nat):w.frozen? ⟨g,x,none⟩=false:=by
 unfold Blk at h;simp [World.frozen?,h]
theorem Blk.set {w:World} {g n:Nat} {f:Nat->Nat} {T:Nat} (h:Blk w g n f T) (x v:Nat):Blk (w.setCell ⟨g,x,none⟩ (.int .u32 (v:Int))) g n (fun y=>if y=x then v else f y) T:=by
 unfold Blk at *;rw [<- rowA_set f n x v];simp [World.setCell,Array.getElem?_modify,h]
theorem Blk.congr {w:World} {g n:Nat} {f f':Nat->Nat} {T:Nat} (h:Blk w g n f T) (hf:∀ i,i < n->f i=f' i):Blk w g n f' T:=by
 unfold Blk at *;rw [<- rowA_congr hf];exact h
theorem Blk.below {w w':World} {g n:Nat} {f:Nat->Nat} {T:Nat} (h:Blk w g n f T) (hb:Below w.heap.size w w'):Blk w' g n f T:=by
 unfold Blk at *;exact (hb.block g (Array.getElem?_eq_some_iff.1 h).1).trans h
theorem Blk.drewN {w:World} {g n:Nat} {f:Nat->Nat} {T:Nat} (h:Blk w g n f T) (k:Nat):Blk (w.drewN k) g n f T:=h
theorem Blk.u32s {w:World} {g n:Nat} {f:Nat->Nat} {T:Nat} (h:Blk w g n f T) (hf:∀ i,i < n->f i < 4294967296) (hn:n<=9223372036854775807):U32s w (some ⟨g,0,none⟩) ((List.range n).map f):=by
 refine ⟨?_,by simpa using hn,?_⟩
 ·intro d hd;simp only [List.mem_map,List.mem_range] at hd;obtain ⟨i,hi,rfl⟩:=hd;exact hf i hi
 ·right
  refine ⟨g,0,rfl,h.lt,fun j d hj=>?_⟩
  rw [List.getElem?_map] at hj
  rcases Nat.lt_or_ge j n with hlt | hge
  ·rw [List.getElem?_range hlt] at hj;simp at hj;subst hj;rw [Nat.zero_add];exact h.cell hlt
  ·rw [List.getElem?_eq_none (by simpa using hge)] at hj;cases hj
def RetN (w:World) (v:Nat) (e:Ending) (w':World):Prop:=∃ a c,e=.returned (.slice a (limbs v).length c)/\(limbs v).length<=c/\U32s w' a (limbs v)/\Below w.heap.size w w'
theorem nTrim_at {w:World} {a:Option Addr} {l:List Nat} (c:Nat) (hc:l.length<=c) (h:U32s w a l):
  Calls Tryz.prog 151 #[.slice a l.length c] w fun e w'=>(∃ a' c',e=.returned (.slice a' (limbs (lval l)).length c')/\(limbs (lval l)).length<=c'/\U32s w a' (limbs (lval l))/\(a'=a ∨ limbs (lval l)=[]))/\w=w':=by
 have hlen:=h.len;obtain ⟨HU,HL⟩:=hd2 h h.lim;clear h
 go_enter Tryz.func151,Tryz.ntmps151
 go_wp2
 go_loop [3] (fun i=>∃ n:Nat,n<=l.length/\i=.int .i64 n/\Hid (∀ i,n<=i->i < l.length->dig l i=0)) (fun i=>(intOf i).toNat)
 case atStart=>exact ⟨l.length,Nat.le_refl _,rfl,fun i h1 h2=>by omega⟩
 case round=>
  obtain ⟨n,hn,rfl,hz⟩:=hrel
  cases n with
  | zero=>
   have hT:=take_limbs HL.out hn hz.out (.inl rfl);rw [List.take_zero] at hT;have HT:=hid hT;clear hT;go_wp2;go_ret
   refine ⟨⟨none,0,by rw [<- HT.out];rfl,by rw [<- HT.out];simp,by rw [<- HT.out];exact U32s.nil _ _,.inr HT.out.symm⟩,rfl⟩
  | succ m=>
   obtain ⟨b,off,rfl,hb,hcell⟩:=HU.out.pick (show m < l.length by omega);have e1:((m+1:Nat):Int) - 1=(m:Int):=by omega
   by_cases hd:dig l m=0
   ·rw [hd] at hcell;go_wp2;go_round
    case rel=>exact ⟨m,by omega,by go_num,fun i h1 h2=>by
     by_cases hi:i=m
     ·rw [hi];exact hd
     ·exact hz.out i (by omega) h2⟩
    case measure=>simp [intOf]
   ·have hT:=take_limbs HL.out hn hz.out (.inr hd);have HT:=hid hT;have hne:((dig l m:Int)==0)=false:=by rw [beq_eq_false_iff_ne];omega
    clear hT;go_wp2;go_ret;have hle:(limbs (lval l)).length=m+1:=by rw [<- HT.out];simp;omega
    refine ⟨⟨some ⟨b,off,none⟩,c,by rw [hle];rfl,by omega,by rw [<- HT.out];exact HU.out.take _,.inl rfl⟩,rfl⟩
theorem nTrim {w:World} {a:Option Addr} {l:List Nat} (c:Nat) (hc:l.length<=c) (h:U32s w a l):
  Calls Tryz.prog 151 #[.slice a l.length c] w fun e w'=>(∃ a' c',e=.returned (.slice a' (limbs (lval l)).length c')/\(limbs (lval l)).length<=c'/\U32s w a' (limbs (lval l)))/\w=w':=
 (nTrim_at c hc h).mono fun _ _ ⟨⟨a',c',h1,h2,h3,_⟩,h4⟩=>⟨⟨a',c',h1,h2,h3⟩,h4⟩
theorem nTrim_is {w:World} {a:Option Addr} {l:List Nat} {v:Nat} (c:Nat) (hc:l.length<=c) (h:U32s w a l) (hv:lval l=v):
  Calls Tryz.prog 151 #[.slice a l.length c] w fun e w'=>(∃ a' c',e=.returned (.slice a' (limbs v).length c')/\(limbs v).length<=c'/\U32s w a' (limbs v))/\w=w':=by
 subst hv;exact nTrim c hc h
theorem nValid {w:World} {a:Option Addr} {l:List Nat} (c:Nat) (h:U32s w a l):
  Calls Tryz.prog 120 #[.slice a l.length c] w fun e w'=>e=.returned (.bool (decide (Canon l)))/\w=w':=by
 have hlen:=h.len
 by_cases h0:l=[]
 ·subst h0
  go_enter Tryz.func120,Tryz.ntmps120
  go_wp2;go_ret;exact ⟨rfl,rfl⟩
 ·have hp:0 < l.length:=List.length_pos_iff.2 h0;obtain ⟨b,off,rfl,hb,hcell⟩:=h.pick (show l.length - 1 < l.length by omega);obtain ⟨m,hm⟩:∃ m,l.length=m+1:=⟨l.length - 1,by omega⟩
  have hC:Canon l ↔ dig l m ≠ 0:=by
   unfold Canon;rw [hm,Nat.add_sub_cancel];exact ⟨fun h=>h.resolve_left h0,.inr⟩
  rw [hm,Nat.add_sub_cancel] at hcell;rw [hm] at hlen ⊢;have HC:=hid hC;clear hC h hm hp h0
  by_cases hd:dig l m=0
  ·rw [hd] at hcell
   go_enter Tryz.func120,Tryz.ntmps120
   go_wp2;go_ret;have e0:((m:Int)+1==0)=false:=by rw [beq_eq_false_iff_ne];omega
   have e1:decide (Canon l)=false:=by rw [decide_eq_false_iff_not,HC.out];simp [hd]
   exact ⟨ret_bool (by rw [e0,e1]),rfl⟩
  ·have hne:((dig l m:Int) != 0)=true:=by rw [bne_iff_ne];omega
   go_enter Tryz.func120,Tryz.ntmps120
   go_wp2;go_ret;exact ⟨ret_bool (by rw [eq_comm,decide_eq_true_eq,HC.out];exact hd),rfl⟩
theorem nOf (x:Nat) (hx:x < 18446744073709551616) (w:World):Calls Tryz.prog 130 #[.int .u64 (x:Int)] w (RetN w x):=by
 go_enter Tryz.func130,Tryz.ntmps130
 go_wp2_with fail
 have hU:U32s (w.alloc (.cells #[.int .u32 ((x:Int) % 4294967296),.int .u32 ((x:Int) / 4294967296)] 109)) (some ⟨w.heap.size,0,none⟩) [x % 4294967296,x / 4294967296]:=by
  refine ⟨?_,by simp,.inr ⟨w.heap.size,0,rfl,by simp,fun j d hj=>?_⟩⟩
  ·intro d hd;simp at hd;omega
  ·rw [World.cell?_alloc_at _ _ _ _ rfl]
   match j,hj with
   | 0,hj=>simp at hj;subst hj;simp
   | 1,hj=>simp at hj;subst hj;simp
 have hv:lval [x % 4294967296,x / 4294967296]=x:=by rw [lval_cons,lval_cons,lval_nil];omega
 refine (nTrim_is (l:=[x % 4294967296,x / 4294967296]) 2 (Nat.le_refl _) hU hv).mono ?_
 rintro e w' ⟨⟨a',c',rfl,h1,h2⟩,rfl⟩;clear hU hv;go_wp2;go_ret;exact ⟨a',c',rfl,h1,h2,(Below.refl _ _).alloc (Nat.le_refl _) _⟩
theorem cmpN_lt {x y:Nat} (h:x < y):cmpN x y= -1:=by simp [cmpN,h]
theorem cmpN_gt {x y:Nat} (h:y < x):cmpN x y=1:=by simp [cmpN,h];omega
theorem cmpN_eq (x:Nat):cmpN x x=0:=by simp [cmpN]
theorem limbs_lt_len {x y:Nat} (h:(limbs x).length < (limbs y).length):x < y:=by
 have:=lval_lt_len (lim_limbs x) (limbs_canon y) h
 rwa [lval_limbs,lval_limbs] at this
theorem limbs_lt_at {x y m:Nat} (hl:(limbs x).length=(limbs y).length) (hm:m < (limbs x).length) (hs:∀ j,m+1<=j->j < (limbs x).length->dig (limbs x) j=dig (limbs y) j) (h:dig (limbs x) m < dig (limbs y) m):x < y:=by
 have:=valN_lt_at (f:=dig (limbs x)) (g:=dig (limbs y)) (n:=(limbs x).length) (i:=m) (fun j _=>dig_lt (lim_limbs x) j) hm (fun j h1 h2=>hs j h1 h2) h;have e1:valN (dig (limbs x)) (limbs x).length=x:=lval_limbs x;have e2:valN (dig (limbs y)) (limbs x).length=y:=by rw [hl];exact lval_limbs y
 rwa [e1,e2] at this
theorem limbs_eq_all {x y:Nat} (hl:(limbs x).length=(limbs y).length) (hs:∀ j,0<=j->j < (limbs x).length->dig (limbs x) j=dig (limbs y) j):x=y:=by
 have e1:valN (dig (limbs x)) (limbs x).length=x:=lval_limbs x;have e2:valN (dig (limbs y)) (limbs x).length=y:=by rw [hl];exact lval_limbs y
 rw [<- e1, <- e2];exact valN_congr (fun j hj=>hs j (Nat.zero_le _) hj)
theorem nCmp {w:World} {a b:Option Addr} {l m:List Nat} {x y:Nat} (c d:Nat) (hc:l.length<=c) (hd:m.length<=d) (h:U32s w a l) (g:U32s w b m) (hx:lval l=x) (hy:lval m=y):
  Calls Tryz.prog 122 #[.slice a l.length c,.slice b m.length d] w fun e w'=>e=.returned (.int .i64 (cmpN x y))/\∃ n,w'=w.drewN n:=by
 obtain ⟨HA,HB⟩:=hd2 (nTrim_is c hc h hx) (nTrim_is d hd g hy);have hll:=h.len;have hlm:=g.len;clear h g hx hy hc hd
 go_enter Tryz.func122,Tryz.ntmps122
 go_wp2_with fail
 refine HA.out.mono ?_
 rintro e w' ⟨⟨a1,c1,rfl,hc1,ha1⟩,rfl⟩
 go_wp2_with fail
 refine HB.out.mono ?_
 rintro e w' ⟨⟨b1,d1,rfl,hd1,hb1⟩,rfl⟩;have hl1:=ha1.len;have hl2:=hb1.len;clear HA HB hc1 hd1
 rcases Nat.lt_trichotomy (limbs x).length (limbs y).length with hlt | heq | hgt
 ·have hR:=hid (cmpN_lt (limbs_lt_len hlt));go_wp2;go_ret;exact ⟨ret_int hR.out.symm,0,rfl⟩
 ·have hEq:=hid heq;have hneq:((limbs x).length != (limbs y).length)=false:=by rw [heq];simp
  have hge1:(limbs x).length<=(limbs y).length:=by omega
  have hge2:(limbs y).length<=(limbs x).length:=by omega
  clear heq;obtain ⟨HX,HY⟩:=hd2 ha1 hb1;clear ha1 hb1;go_wp2
  go_loopw [5] (fun i wr=>∃ k:Nat,∃ I:Int,k<=(limbs x).length/\I+1=(k:Int)/\i=.int .i64 I/\Hid (∀ j,k<=j->j < (limbs x).length->dig (limbs x) j=dig (limbs y) j)/\Hid (∃ n,wr=w.drewN n)) (fun i _=>(intOf i+1).toNat)
  case atStart=>exact ⟨(limbs x).length,_,Nat.le_refl _,by omega,rfl,fun j h1 h2=>by omega,⟨0,rfl⟩⟩
  case round=>
   obtain ⟨k,I,hk,hI,rfl,hs,HWr⟩:=hrel
   cases k with
   | zero=>
    obtain rfl:I= -1:=by omega
    have hxy:=limbs_eq_all hEq.out hs.out;have HR:=hid (show cmpN x y=0 by rw [hxy];exact cmpN_eq y);clear hxy;go_wp2;go_ret;exact ⟨ret_int HR.out.symm,HWr.out⟩
   | succ m=>
    obtain rfl:I=(m:Int):=by omega
    have hm1:m < (limbs x).length:=by omega
    have hm2:m < (limbs y).length:=by omega
    have HXr:Hid (U32s wr a1 (limbs x)):=by obtain ⟨n,hn⟩:=HWr.out;rw [hn];exact HX.out.drewN n
    have HYr:Hid (U32s wr b1 (limbs y)):=by obtain ⟨n,hn⟩:=HWr.out;rw [hn];exact HY.out.drewN n
    obtain ⟨p1,o1,rfl,_,q1⟩:=HXr.out.pick hm1;obtain ⟨p2,o2,rfl,_,q2⟩:=HYr.out.pick hm2;have HWn:Hid (∀ k,∃ n,wr.drewN k=w.drewN n):=fun k=>by obtain ⟨n,hn⟩:=HWr.out;rw [hn];exact drew2 w n k
    have HWnn:Hid (∀ k j,∃ n,(wr.drewN k).drewN j=w.drewN n):=fun k j=>by obtain ⟨n,hn⟩:=HWr.out;rw [hn];exact ⟨n+k+j,by simp [Nat.add_assoc]⟩
    rcases Nat.lt_trichotomy (dig (limbs x) m) (dig (limbs y) m) with h1 | h1 | h1
    ·have HR:=hid (cmpN_lt (limbs_lt_at hEq.out (by omega) hs.out h1));have hne:((dig (limbs x) m:Int) != (dig (limbs y) m:Int))=true:=by rw [bne_iff_ne];omega
     go_wp2
     go_quiet (fail)
     clear hne;go_wp2
     go_quiet (fail)
     go_wp2;go_ret;exact ⟨ret_int HR.out.symm,by first | exact HWnn.out _ _ | exact HWn.out _⟩
    ·rw [<- h1] at q2;have hs':=hs.out;clear hs;go_wp2
     go_quiet (fail)
     go_wp2;go_roundw
     case rel=>exact ⟨m,(m:Int) - 1,by omega,by omega,rfl,fun j g1 g2=>by
      by_cases hj:j=m
      ·rw [hj];exact h1
      ·exact hs' j (by omega) g2,HWn.out _⟩
     case measure=>simp [intOf]
    ·have HR:=hid (cmpN_gt (limbs_lt_at hEq.out.symm (by omega) (fun j g1 g2=>(hs.out j g1 (by omega)).symm) h1));have hne:((dig (limbs x) m:Int) != (dig (limbs y) m:Int))=true:=by rw [bne_iff_ne];omega
     have hnl:decide (dig (limbs x) m < dig (limbs y) m)=false:=by simp;omega
     go_wp2
     go_quiet (fail)
     clear hne;go_wp2
     go_quiet (fail)
     go_wp2;go_ret;exact ⟨ret_int HR.out.symm,by first | exact HWnn.out _ _ | exact HWn.out _⟩
 ·have hR:=hid (cmpN_gt (limbs_lt_len hgt));go_wp2;go_ret;exact ⟨ret_int hR.out.symm,0,rfl⟩
theorem Tryz.infoU32:(Tryz.prog.info? 109).map (fun i=>(i.zero,i.size,i.bytes))=some (some (.int .u32 0),1,4):=by kernel_rfl
theorem U32s.own {w:World} {base E:Nat} {v:Value} {l:List Nat} (h:w.ownsRow base E 1 v l.length (l.map fun d:Nat=>Value.int .u32 (d:Int))) (hl:Lim l) (hn:l.length<=9223372036854775807):
  ∃ a c,v=.slice a l.length c/\l.length<=c/\U32s w a l:=by
 rcases h.2 with ⟨rfl,hz⟩ | ⟨g,cap,cur,rfl,hb,hg,hnc,hcm,hcs,htake⟩
 ·rw [hz];exact ⟨none,0,rfl,Nat.le_refl _,by rw [List.eq_nil_of_length_eq_zero hz];exact U32s.nil _ _⟩
 ·refine ⟨_,cap,rfl,hnc,hl,hn,.inr ⟨g,0,rfl,(Array.getElem?_eq_some_iff.1 hg).1,?_⟩⟩
  intro j d hj;have:=h.cells (g:=g) rfl j (.int .u32 (d:Int)) (by simp [hj])
  simpa [Addr.add_lit] using this
theorem nClone {w:World} {a:Option Addr} {l:List Nat} (c:Nat) (h:U32s w a l) (hr:l.length * 4<=140737488355328):
  Calls Tryz.prog 167 #[.slice a l.length c] w fun e w'=>∃ a' c',e=.returned (.slice a' l.length c')/\l.length<=c'/\U32s w' a' l/\Below w.heap.size w w':=by
 have q:∀ (w:World) (a:Option Addr) (n c n' c':Nat),(binOp .eql 49 (.slice a n c) (.slice none n' c')).run Tryz.prog w=.ok (.bool a.isNone) w:=fun w a n c n' c'=>Lib.run_eql_slice_nil w _ _ a n c n' c' Tryz.underlying49
 have hlen:=h.len
 cases a with
 | none=>
  have hl:l=[]:=by
   rcases h.row with hl | ⟨_,_,h0,_⟩
   ·exact hl
   ·cases h0
  subst hl
  go_enter Tryz.func167,Tryz.ntmps167
  go_wp2;go_ret;exact ⟨none,0,rfl,Nat.le_refl _,U32s.nil _ _,Below.refl _ _⟩
 | some p=>
  obtain ⟨i0,hi,hz0,hz1,hz2⟩:=info_parts Tryz.infoU32;have HU:=hid h;have HN:Hid (∀ (o:Obj) (j:Nat) (u:Value),(l.map fun d:Nat=>Value.int .u32 (d:Int))[j]? =some u->(w.alloc o).cell? (p.add j)=some u):=by
   intro o j u hj;rw [List.getElem?_map] at hj
   cases hd:l[j]? with
   | none=>rw [hd] at hj;cases hj
   | some d=>
    rw [hd] at hj;cases hj
    rcases h.row with rfl | ⟨b,off,he,hb,hc⟩
    ·simp at hd
    ·cases he;rw [Addr.add_lit];have hbl:Below w.heap.size w (w.alloc o):=(Below.refl _ w).alloc (Nat.le_refl _) _;exact (hbl.cell (p:=⟨b,off+j,none⟩) hb).trans (hc j d hd)
  clear h
  go_enter Tryz.func167,Tryz.ntmps167
  go_wp2_with (at_builtin;refine wpList_append_own _ rfl _ _ 49 rfl w.heap.size 109 i0 (.int .u32 0) 1 4 Tryz.underlying49 hi hz0 hz1 hz2 rfl (by decide) _ _ _ rfl (World.ownsRow_made w #[] 0 (Nat.le_refl _) (Nat.zero_le _) rfl) p l.length c (l.map fun d:Nat=>Value.int .u32 (d:Int)) rfl ?qc1 ?qc2 ?qc3 ?qc4 ?qc5 ?qc6 ?_)
  case qc1=>simp
  case qc2=>exact HN.out _
  case qc3=>intro u hu;obtain ⟨x,_,rfl⟩:=List.mem_map.1 hu;rfl
  case qc4=>unfold maxLen;omega
  case qc5=>omega
  case qc6=>simp
  intro v' w1 hown hgrow hnil;have hown':w1.ownsRow w.heap.size 109 1 v' l.length (l.map fun d:Nat=>Value.int .u32 (d:Int)):=by simpa using hown
  obtain ⟨a',c',rfl,h1,h2⟩:=U32s.own hown' HU.out.lim hlen;clear hown hown';clear hnil;go_wp2;go_ret;exact ⟨a',c',rfl,h1,h2,((Below.refl _ w).alloc (Nat.le_refl _) _).grown hgrow (by simp) (by intro k hk;simp [Value.ownBlock] at hk;omega)⟩
theorem nMake {w:World} {a:Option Addr} {l:List Nat} (c:Nat) (hc:l.length<=c) (h:U32s w a l) (hr:l.length * 4<=140737488355328):
  Calls Tryz.prog 153 #[.slice a l.length c] w (RetN w (lval l)):=by
 have HT:=hid (nTrim c hc h);have hle:=limbs_len_of_lval h.lim;clear h
 go_enter Tryz.func153,Tryz.ntmps153
 go_wp2_with fail
 refine HT.out.mono ?_
 rintro e w' ⟨⟨a1,c1,rfl,h1,h2⟩,rfl⟩;have HC:=hid (nClone c1 h2 (by omega));clear h2 h1
 go_wp2_with fail
 refine HC.out.mono ?_
 rintro e w' ⟨a2,c2,rfl,h3,h4,h5⟩;go_wp2;go_ret;exact ⟨a2,c2,rfl,h3,h4,h5⟩
structure ExtD where
 news:Array Obj
 count:Nat
instance:Inhabited ExtD:=⟨⟨#[],0⟩⟩
def ext (W:World) (e:ExtD):World:={ W with heap:=W.heap++e.news,drawn:=e.count }
theorem ext_below (W:World) (e:ExtD):Below W.heap.size W (ext W e):=
 ⟨rfl,rfl,rfl,by simp [ext],fun k hk=>by show (W.heap++e.news)[k]? =_;rw [Array.getElem?_append_left hk]⟩
theorem below_ext {W w':World} (h:Below W.heap.size W w'):∃ e,w'=ext W e:=by
 refine ⟨⟨w'.heap.extract W.heap.size w'.heap.size,w'.drawn⟩,?_⟩
 obtain ⟨h1,t1,d1,o1,p1⟩:=w';obtain ⟨h2,t2,d2,o2,p2⟩:=W;obtain ⟨e1,e2,e3,e4,e5⟩:=h;simp only at e1 e2 e3 e4 e5;subst e1 e2 e3;unfold ext
 congr 1
 apply Array.ext_getElem?
 intro i
 rcases Nat.lt_or_ge i h2.size with hlt | hge
 ·rw [Array.getElem?_append_left hlt];exact e5 i hlt
 ·rw [Array.getElem?_append_right hge,Array.getElem?_extract];simp only [Nat.min_self]
  by_cases hi:i < h1.size
  ·rw [if_pos (by omega),Nat.add_sub_cancel' hge]
  ·rw [if_neg (by omega),Array.getElem?_eq_none (by omega)]
theorem ext_cell {W:World} {g o:Nat} {v:Value} (h:W.cell? ⟨g,o,none⟩=some v) (hg:g < W.heap.size):∀ e,(ext W e).cell? ⟨g,o,none⟩=some v:=fun e=>((ext_below W e).cell hg).trans h
theorem wp_region_quiet_ext {P:Program} {id:Nat} {Q:Exit->Act->World->Prop} {a:Act} {w:World} {l:List Oper} (hm:P.follows .mixedOrders=true) (hB:Region.lexB .any l.toArray=true)
  (h:wpQuiet P l.toArray (fun w'=>∃ e,w'=ext w e) (fun a'=>∀ w',(∃ e,w'=ext w e)->Q .normal a' w') l a):(Code.region id l.toArray true).wp P Q a w:=
 wp_region_quiet (C:=fun w'=>∃ e,w'=ext w e) hm hB ⟨⟨#[],w.drawn+1⟩,by simp [ext]⟩ (by simpa using h)
theorem Calls.ext_of {P:Program} {f:FuncId} {args:Array Value} {W:World} {e:ExtD} {v:Value}
  (h:Calls P f args (ext W e) fun x w'=>x=.returned v/\Below (ext W e).heap.size (ext W e) w'):Calls P f args (ext W e) fun x w''=>x=.returned v/\∃ m,w''=ext W m:=
 h.mono fun _ _ ⟨he,hb⟩=>⟨he,below_ext ((ext_below W e).trans (hb.mono (ext_below W e).size))⟩
def validFrom:List Int->Int->Bool
 | [],_=>true
 | d::r,s=>if d < 1 ∨ 16384 < d ∨ 16384 < s * d then false else validFrom r (s * d)
def validL (l:List Int):Bool:=1<=l.length && l.length<=4 && validFrom l 1
def prodFrom:List Int->Int->Int
 | [],s=>s
 | d::r,s=>prodFrom r (s * d)
def sizeL (l:List Int):Int:=if validL l then prodFrom l 1 else 0
theorem validL_inside {l:List Int} (h1:1<=l.length) (h4:l.length<=4):validFrom (l.drop 0) 1=validL l:=by simp [validL,h1,h4]
theorem validL_none {l:List Int} (h:l.length < 1):validL l=false:=by
 have:¬ 1<=l.length:=by omega
 simp [validL,this]
theorem validL_many {l:List Int} (h:4 < l.length):validL l=false:=by
 have:¬ l.length<=4:=by omega
 simp [validL,this]
theorem validFrom_no {d s:Int} {r:List Int} (h:d < 1 ∨ 16384 < d ∨ 16384 < s * d):validFrom (d::r) s=false:=by simp [validFrom,h]
theorem validFrom_yes {d s:Int} {r:List Int} (h1:¬ d < 1) (h2:¬ 16384 < d) (h3:¬ 16384 < s * d):validFrom (d::r) s=validFrom r (s * d):=by simp [validFrom,h1,h2,h3]
theorem mul_bd11 {s d:Int} (hs1:1<=s) (hs2:s<=16384) (hd1:1<=d) (hd2:d<=16384):1<=s * d/\s * d<=268435456:=by
 have h1:1 * 1<=s * d:=Int.mul_le_mul hs1 hd1 (by omega) (by omega);have h2:s * d<=16384 * 16384:=Int.mul_le_mul hs2 hd2 (by omega) (by omega);omega
theorem validFrom_step {l:List Int} {k:Nat} {d s:Int} (hd:l.drop k=d::l.drop (k+1)) (h1:1<=s) (h:validFrom (l.drop k) s=true):
  1<=d/\d<=16384/\s * d<=16384/\1<=s * d/\validFrom (l.drop (k+1)) (s * d)=true:=by
 rw [hd] at h;simp only [validFrom] at h
 split at h
 ·simp at h
 ·rename_i hc
  have h2:1 * 1<=s * d:=Int.mul_le_mul h1 (by omega) (by omega) (by omega);exact ⟨by omega,by omega,by omega,by omega,h⟩
def sameL (l m:List Int):Bool:=decide (l=m)
theorem sameL_len {l m:List Int} (h:l.length ≠ m.length):sameL l m=false:=by
 unfold sameL;simp;intro e;exact h (by rw [e])
theorem sameL_no {l m:List Int} {k:Nat} {c d:Int} (h1:l[k]? =some c) (h2:m[k]? =some d) (h:c ≠ d):sameL l m=false:=by
 unfold sameL;simp;intro e;rw [e,h2] at h1;exact h (by simpa using h1.symm)
theorem take_more {l m:List Int} {k:Nat} {c:Int} (h:l.take k=m.take k) (h1:l[k]? =some c) (h2:m[k]? =some c):l.take (k+1)=m.take (k+1):=by
 rw [List.take_add_one,List.take_add_one,h,h1,h2]
theorem sameL_full {l m:List Int} {k:Nat} (hk:¬ k < l.length) (hl:l.length=m.length) (h:l.take k=m.take k):sameL l m=true:=by
 unfold sameL;rw [List.take_of_length_le (by omega),List.take_of_length_le (by omega)] at h;simp [h]
def indexFrom:List Int->List Int->Int->Int × Int
 | d::r,c::q,s=>if c < 0 ∨ d<=c then (0,2) else indexFrom r q (s * d+c)
 | _,_,s=>(s,0)
def indexL (l m:List Int):Int × Int:=if validL l=true/\m.length=l.length then indexFrom l m 0 else (0,1)
theorem validL_from {l:List Int} (h:validL l=true):validFrom (l.drop 0) 1=true:=by simp [validL] at h;exact h.2
theorem validL_len {l:List Int} (h:validL l=true):1<=l.length/\l.length<=4:=by simp [validL] at h;exact h.1
theorem idx_bd {i n d c:Int} (hi:0<=i) (hin:i < n) (hd:1<=d) (hc:0<=c) (hcd:c < d):0<=i * d/\0<=i * d+c/\i * d+c < n * d:=by
 have h1:0 * 0<=i * d:=Int.mul_le_mul hi (by omega) (by omega) hi;have h2:(i+1) * d<=n * d:=Int.mul_le_mul_of_nonneg_right (by omega) (by omega);rw [Int.add_mul] at h2;omega
theorem validFrom_mem {l:List Int} {s:Int} (h:validFrom l s=true):∀ d ∈ l,1<=d/\d<=16384:=by
 induction l generalizing s with
 | nil=>simp
 | cons d r ih=>
  simp only [validFrom] at h
  split at h
  ·simp at h
  ·intro x hx
   rcases List.mem_cons.1 hx with rfl | hx
   ·omega
   ·exact ih h x hx
theorem validL_mem {l:List Int} (h:validL l=true):∀ d ∈ l,1<=d/\d<=16384:=validFrom_mem (validL_from h)
theorem tValid {w:World} {F:Nat->Prop} {a:Option Addr} {l:List Int} (cap:Nat) (h:Ints w F a l):
  Calls Tryz.prog 53 #[.slice a l.length cap] w fun e w'=>e=.returned (.bool (validL l))/\w=w':=by
 have hlen:=h.len
 by_cases h1:l.length < 1
 ·have HV:=hid (validL_none h1)
  go_enter Tryz.func53,Tryz.ntmps53
  go_wp2;go_ret;exact ⟨ret_bool HV.out.symm,rfl⟩
 by_cases h4:4 < l.length
 ·have HV:=hid (validL_many h4)
  go_enter Tryz.func53,Tryz.ntmps53
  go_wp2;go_ret;exact ⟨ret_bool HV.out.symm,rfl⟩
 have HV:=hid (validL_inside (l:=l) (by omega) (by omega))
 go_enter Tryz.func53,Tryz.ntmps53
 go_wp2
 go_loop [3,16] (fun z i=>∃ k:Nat,∃ n:Int,k<=l.length/\1<=n/\n<=16384/\i=.int .i64 k/\z=.int .i64 n/\Hid (validFrom (l.drop k) n=validL l))
  (fun _ i=>l.length - (intOf i).toNat)
 case atStart=>exact ⟨0,1,by omega,by omega,by omega,rfl,rfl,HV.out⟩
 case round=>
  obtain ⟨k,n,hk,hn1,hn2,rfl,rfl,hrel⟩:=hrel
  by_cases hlt:k < l.length
  ·obtain ⟨b,off,d,rfl,hc,_,hd,hw1,hw2⟩:=h.pick hlt;have HD:=hid hd;clear hd h
   by_cases c1:d < 1
   ·go_wp2;go_ret;exact ⟨ret_bool (by rw [<- hrel.out,HD.out,validFrom_no (.inl c1)]),rfl⟩
   by_cases c2:16384 < d
   ·go_wp2;go_ret;exact ⟨ret_bool (by rw [<- hrel.out,HD.out,validFrom_no (.inr (.inl c2))]),rfl⟩
   have hb:=mul_bd11 hn1 hn2 (by omega:1<=d) (by omega)
   by_cases c3:16384 < n * d
   ·go_wp2;go_ret;exact ⟨ret_bool (by rw [<- hrel.out,HD.out,validFrom_no (.inr (.inr c3))]),rfl⟩
   go_wp2;go_round
   case rel=>exact ⟨k+1,n * d,by omega,by omega,by omega,by go_num,rfl,by rw [<- hrel.out,HD.out,validFrom_yes c1 c2 c3];rfl⟩
   case measure=>simp [intOf];omega
  ·go_wp2;go_ret;exact ⟨ret_bool (by rw [<- hrel.out,drop_end hk hlt];rfl),rfl⟩
theorem r11Valid {w:World} {F:Nat->Prop} {a:Option Addr} {l:List Int} (cap:Nat) (h:Ints w F a l):
  Calls Tryz.prog 50 #[.slice a l.length cap] w fun e w'=>e=.returned (.bool (validL l))/\w=w':=by
 have hlen:=h.len
 by_cases h1:l.length < 1
 ·have HV:=hid (validL_none h1)
  go_enter Tryz.func50,Tryz.ntmps50
  go_wp2;go_ret;exact ⟨ret_bool HV.out.symm,rfl⟩
 by_cases h4:4 < l.length
 ·have HV:=hid (validL_many h4)
  go_enter Tryz.func50,Tryz.ntmps50
  go_wp2;go_ret;exact ⟨ret_bool HV.out.symm,rfl⟩
 have HV:=hid (validL_inside (l:=l) (by omega) (by omega))
 go_enter Tryz.func50,Tryz.ntmps50
 go_wp2
 go_loop [3,4] (fun z i=>∃ k:Nat,∃ n:Int,k<=l.length/\1<=n/\n<=16384/\i=.int .i64 k/\z=.int .i64 n/\Hid (validFrom (l.drop k) n=validL l))
  (fun _ i=>l.length - (intOf i).toNat)
 case atStart=>exact ⟨0,1,by omega,by omega,by omega,rfl,rfl,HV.out⟩
 case round=>
  obtain ⟨k,n,hk,hn1,hn2,rfl,rfl,hrel⟩:=hrel
  by_cases hlt:k < l.length
  ·obtain ⟨b,off,d,rfl,hc,_,hd,hw1,hw2⟩:=h.pick hlt;have HD:=hid hd;clear hd h
   by_cases c1:d < 1
   ·go_wp2;go_ret;exact ⟨ret_bool (by rw [<- hrel.out,HD.out,validFrom_no (.inl c1)]),rfl⟩
   by_cases c2:16384 < d
   ·go_wp2;go_ret;exact ⟨ret_bool (by rw [<- hrel.out,HD.out,validFrom_no (.inr (.inl c2))]),rfl⟩
   have hb:=mul_bd11 hn1 hn2 (by omega:1<=d) (by omega)
   by_cases c3:16384 < n * d
   ·go_wp2;go_ret;exact ⟨ret_bool (by rw [<- hrel.out,HD.out,validFrom_no (.inr (.inr c3))]),rfl⟩
   go_wp2;go_round
   case rel=>exact ⟨k+1,n * d,by omega,by omega,by omega,by go_num,rfl,by rw [<- hrel.out,HD.out,validFrom_yes c1 c2 c3];rfl⟩
   case measure=>simp [intOf];omega
  ·go_wp2;go_ret;exact ⟨ret_bool (by rw [<- hrel.out,drop_end hk hlt];rfl),rfl⟩
theorem tSize {w:World} {F:Nat->Prop} {a:Option Addr} {l:List Int} (cap:Nat) (h:Ints w F a l):
  Calls Tryz.prog 31 #[.slice a l.length cap] w fun e w'=>e=.returned (.int .i64 (sizeL l))/\w=w':=by
 have hlen:=h.len;have hV:=tValid cap h;cases hv:validL l
 ·rw [hv] at hV;obtain ⟨HS,HV⟩:=hd2 (show sizeL l=0 by simp [sizeL,hv]) hV;clear hv hV
  go_enter Tryz.func31,Tryz.ntmps31
  go_wp2_with (go_at_call 53;refine HV.out.mono ?_;rintro e w' ⟨rfl,rfl⟩)
  go_ret;exact ⟨ret_int HS.out.symm,rfl⟩
 ·rw [hv] at hV;obtain ⟨HS,HV,HF⟩:=hd3 (show sizeL l=prodFrom (l.drop 0) 1 by simp [sizeL,hv]) hV (show validFrom (l.drop 0) 1=true by simp [validL] at hv;exact hv.2);clear hv hV
  go_enter Tryz.func31,Tryz.ntmps31
  go_wp2_with (go_at_call 53;refine HV.out.mono ?_;rintro e w' ⟨rfl,rfl⟩)
  go_loop [3,11] (fun z i=>∃ k:Nat,∃ n:Int,k<=l.length/\1<=n/\n<=16384/\i=.int .i64 k/\z=.int .i64 n/\Hid (validFrom (l.drop k) n=true)/\Hid (prodFrom (l.drop k) n=sizeL l))
   (fun _ i=>l.length - (intOf i).toNat)
  case atStart=>exact ⟨0,1,by omega,by omega,by omega,rfl,rfl,HF,HS.out.symm⟩
  case round=>
   obtain ⟨k,n,hk,hn1,hn2,rfl,rfl,hv,hrel⟩:=hrel
   by_cases hlt:k < l.length
   ·obtain ⟨b,off,d,rfl,hc,_,hd,hw1,hw2⟩:=h.pick hlt;obtain ⟨d1,d2,d3,d4,d5⟩:=validFrom_step hd hn1 hv.out;obtain ⟨HD,H5⟩:=hd2 hd d5;clear hd h d5;go_wp2;go_round
    case rel=>exact ⟨k+1,n * d,by omega,by omega,by omega,by go_num,rfl,H5,by rw [<- hrel.out,HD.out];rfl⟩
    case measure=>simp [intOf];omega
   ·go_wp2;go_ret;exact ⟨ret_int (by rw [<- hrel.out,drop_end hk hlt];rfl),rfl⟩
theorem rSize {w:World} {F:Nat->Prop} {a:Option Addr} {l:List Int} (cap:Nat) (h:Ints w F a l):
  Calls Tryz.prog 29 #[.slice a l.length cap] w fun e w'=>e=.returned (.int .i64 (sizeL l))/\w=w':=by
 have hlen:=h.len;have hV:=r11Valid cap h;cases hv:validL l
 ·rw [hv] at hV;obtain ⟨HS,HV⟩:=hd2 (show sizeL l=0 by simp [sizeL,hv]) hV;clear hv hV
  go_enter Tryz.func29,Tryz.ntmps29
  go_wp2_with (go_at_call 50;refine HV.out.mono ?_;rintro e w' ⟨rfl,rfl⟩)
  go_ret;exact ⟨ret_int HS.out.symm,rfl⟩
 ·rw [hv] at hV;obtain ⟨HS,HV,HF⟩:=hd3 (show sizeL l=prodFrom (l.drop 0) 1 by simp [sizeL,hv]) hV (show validFrom (l.drop 0) 1=true by simp [validL] at hv;exact hv.2);clear hv hV
  go_enter Tryz.func29,Tryz.ntmps29
  go_wp2_with (go_at_call 50;refine HV.out.mono ?_;rintro e w' ⟨rfl,rfl⟩)
  go_loop [3,4] (fun z i=>∃ k:Nat,∃ n:Int,k<=l.length/\1<=n/\n<=16384/\i=.int .i64 k/\z=.int .i64 n/\Hid (validFrom (l.drop k) n=true)/\Hid (prodFrom (l.drop k) n=sizeL l))
   (fun _ i=>l.length - (intOf i).toNat)
  case atStart=>exact ⟨0,1,by omega,by omega,by omega,rfl,rfl,HF,HS.out.symm⟩
  case round=>
   obtain ⟨k,n,hk,hn1,hn2,rfl,rfl,hv,hrel⟩:=hrel
   by_cases hlt:k < l.length
   ·obtain ⟨b,off,d,rfl,hc,_,hd,hw1,hw2⟩:=h.pick hlt;obtain ⟨d1,d2,d3,d4,d5⟩:=validFrom_step hd hn1 hv.out;obtain ⟨HD,H5⟩:=hd2 hd d5;clear hd h d5;go_wp2;go_round
    case rel=>exact ⟨k+1,n * d,by omega,by omega,by omega,by go_num,rfl,H5,by rw [<- hrel.out,HD.out];rfl⟩
    case measure=>simp [intOf];omega
   ·go_wp2;go_ret;exact ⟨ret_int (by rw [<- hrel.out,drop_end hk hlt];rfl),rfl⟩
theorem rInts {w:World} {F G:Nat->Prop} {a b:Option Addr} {l m:List Int} (ca cb:Nat) (h:Ints w F a l) (g:Ints w G b m):
  Calls Tryz.prog 97 #[.slice a l.length ca,.slice b m.length cb] w fun e w'=>e=.returned (.bool (sameL l m))/\∃ n,w'=w.drewN n:=by
 have hl1:=h.len;have hl2:=g.len
 by_cases hl:l.length=m.length
 ·have HL:=hid hl
  go_enter Tryz.func97,Tryz.ntmps97
  go_wp2;clear hl
  go_loopw [5] (fun i wr=>∃ k n:Nat,k<=l.length/\i=.int .i64 k/\wr=w.drewN n/\Hid (l.take k=m.take k)) (fun i _=>l.length - (intOf i).toNat)
  case atStart=>exact ⟨0,0,by omega,rfl,rfl,rfl⟩
  case round=>
   obtain ⟨k,n,hk,rfl,rfl,hrel⟩:=hrel
   by_cases hlt:k < l.length
   ·obtain ⟨b1,o1,c,rfl,hc,hc1,_,_,_⟩:=h.pick hlt;obtain ⟨b2,o2,d,rfl,hd,hd1,_,_,_⟩:=g.pick (show k < m.length from HL.out ▸ hlt);obtain ⟨HC,HD⟩:=hd2 hc1 hd1;have hlt2:k < m.length:=HL.out ▸ hlt;clear hc1 hd1 h g
    by_cases hcd:c=d
    ·subst hcd;go_wp2
     go_quiet (fail)
     go_wp2;go_roundw
     case rel=>exact ⟨k+1,_,by omega,by go_num,rfl,take_more hrel.out HC.out HD.out⟩
     case measure=>simp [intOf];omega
    ·have hne:(c != d)=true:=by simp [hcd]
     go_wp2
     go_quiet (fail)
     go_wp2;go_ret;exact ⟨ret_bool (sameL_no HC.out HD.out hcd).symm,drew2 _ _ _⟩
   ·go_wp2;go_ret;exact ⟨ret_bool (sameL_full hlt HL.out hrel.out).symm,n,rfl⟩
 ·have HS:=hid (sameL_len hl)
  go_enter Tryz.func97,Tryz.ntmps97
  go_wp2;go_ret;exact ⟨ret_bool HS.out.symm,0,rfl⟩
def cellW (H W:Int) (ch y x:Int):Int:=if 0<=y/\y < H/\0<=x/\x < W then (ch * H+y) * W+x else -1
structure Win where
 C:Nat
 H:Nat
 W:Nat
 kh:Nat
 kw:Nat
 s:Nat
 p:Nat
def Win.R (q:Win):Nat:=(q.H+2 * q.p - q.kh) / q.s+1
def Win.Q (q:Win):Nat:=(q.W+2 * q.p - q.kw) / q.s+1
def Win.at (q:Win) (r c ch i k:Nat):Int:=cellW q.H q.W ch ((r:Int) * q.s+i - q.p) ((c:Int) * q.s+k - q.p)
def Win.line (q:Win) (r c ch i:Nat):List Int:=(List.range q.kw).map (q.at r c ch i)
def Win.chan (q:Win) (r c ch:Nat):List Int:=(List.range q.kh).flatMap (q.line r c ch)
def Win.one (q:Win) (r c:Nat):List Int:=(List.range q.C).flatMap (q.chan r c)
def Win.rowOf (q:Win) (r:Nat):List (List Int):=(List.range q.Q).map (q.one r)
def Win.all (q:Win):List (List Int):=(List.range q.R).flatMap q.rowOf
def Win.total (q:Win):Nat:=q.R * q.Q * q.C * q.kh * q.kw
structure Win.Ok (q:Win):Prop where
 c1:1<=q.C
 h1:1<=q.H
 w1:1<=q.W
 chw:q.C * q.H * q.W<=16384
 kh1:1<=q.kh
 kh2:q.kh<=64
 kw1:1<=q.kw
 kw2:q.kw<=64
 s1:1<=q.s
 s2:q.s<=64
 ph:q.p < q.kh
 pw:q.p < q.kw
 fh:q.kh<=q.H+2 * q.p
 fw:q.kw<=q.W+2 * q.p
theorem flat_snoc {α:Type} (P:List α) (f:Nat->List α) (i:Nat):P++(List.range (i+1)).flatMap f=(P++(List.range i).flatMap f)++f i:=by
 rw [List.range_succ];simp
theorem map_snoc {α:Type} (P:List α) (f:Nat->α) (i:Nat):P++(List.range (i+1)).map f=(P++(List.range i).map f)++[f i]:=by
 rw [List.range_succ];simp
theorem le_of_mul {a b c:Nat} (hb:1<=b) (h:a * b<=c):a<=c:=Nat.le_trans (Nat.le_mul_of_pos_right a hb) h
theorem Win.Ok.c2 {q:Win} (h:q.Ok):q.C<=16384:=le_of_mul h.h1 (le_of_mul h.w1 h.chw)
theorem Win.Ok.h2 {q:Win} (h:q.Ok):q.H<=16384:=by
 have:=le_of_mul h.w1 h.chw;rw [Nat.mul_comm] at this;exact le_of_mul h.c1 this
theorem Win.Ok.w2 {q:Win} (h:q.Ok):q.W<=16384:=by
 have:=h.chw;rw [Nat.mul_comm] at this;exact le_of_mul (Nat.mul_le_mul h.c1 h.h1) this
theorem Win.Ok.r2 {q:Win} (h:q.Ok):1<=q.R/\q.R<=16600:=by
 have:=h.h2;have:=h.ph;have:=h.kh2;have h3:=Nat.div_le_self (q.H+2 * q.p - q.kh) q.s;unfold Win.R;generalize (q.H+2 * q.p - q.kh) / q.s=z at *;omega
theorem Win.Ok.q2 {q:Win} (h:q.Ok):1<=q.Q/\q.Q<=16600:=by
 have:=h.w2;have:=h.pw;have:=h.kw2;have h3:=Nat.div_le_self (q.W+2 * q.p - q.kw) q.s;unfold Win.Q;generalize (q.W+2 * q.p - q.kw) / q.s=z at *;omega
theorem Win.Ok.rInt {q:Win} (h:q.Ok):((q.H:Int)+2 * (q.p:Int) - (q.kh:Int)) / (q.s:Int)+1=(q.R:Int):=by
 have:=h.fh;unfold Win.R;rw [Int.natCast_add,Int.natCast_ediv,Int.ofNat_sub (by omega)];simp
theorem Win.Ok.qInt {q:Win} (h:q.Ok):((q.W:Int)+2 * (q.p:Int) - (q.kw:Int)) / (q.s:Int)+1=(q.Q:Int):=by
 have:=h.fw;unfold Win.Q;rw [Int.natCast_add,Int.natCast_ediv,Int.ofNat_sub (by omega)];simp
theorem prod_bd11 {a b A B:Int} (a0:0<=a) (a1:a<=A) (b0:0<=b) (b1:b<=B):0<=a * b/\a * b<=A * B:=
 ⟨Int.mul_nonneg a0 b0,Int.mul_le_mul a1 b1 b0 (by omega)⟩
theorem Win.Ok.prods {q:Win} (h:q.Ok):
  (0<=(q.R:Int) * q.Q/\(q.R:Int) * q.Q<=275560000)/\(0<=(q.R:Int) * q.Q * q.C/\(q.R:Int) * q.Q * q.C<=4514775040000)/\
  (0<=(q.R:Int) * q.Q * q.C * q.kh/\(q.R:Int) * q.Q * q.C * q.kh<=288945602560000)/\(0<=(q.R:Int) * q.Q * q.C * q.kh * q.kw/\(q.R:Int) * q.Q * q.C * q.kh * q.kw<=18492518563840000):=by
 have hr:=h.r2.2;have hq:=h.q2.2;have hc:=h.c2;have h1:=h.kh2;have h2:=h.kw2;have a1:=prod_bd11 (a:=q.R) (b:=q.Q) (A:=16600) (B:=16600) (by omega) (by omega) (by omega) (by omega);have a2:=prod_bd11 (b:=q.C) (B:=16384) a1.1 a1.2 (by omega) (by omega);have a3:=prod_bd11 (b:=q.kh) (B:=64) a2.1 a2.2 (by omega) (by omega);have a4:=prod_bd11 (b:=q.kw) (B:=64) a3.1 a3.2 (by omega) (by omega)
 refine ⟨⟨a1.1,by omega⟩,⟨a2.1,by omega⟩,⟨a3.1,by omega⟩,⟨a4.1,by omega⟩⟩
theorem Win.Ok.pos {q:Win} (h:q.Ok) {r c:Nat} (hr:r < q.R) (hc:c < q.Q):(0<=(r:Int) * q.s/\(r:Int) * q.s<=1062400)/\(0<=(c:Int) * q.s/\(c:Int) * q.s<=1062400):=by
 have:=h.r2;have:=h.q2;have:=h.s2;have a1:=prod_bd11 (a:=r) (b:=q.s) (A:=16600) (B:=64) (by omega) (by omega) (by omega) (by omega);have a2:=prod_bd11 (a:=c) (b:=q.s) (A:=16600) (B:=64) (by omega) (by omega) (by omega) (by omega);exact ⟨⟨a1.1,by omega⟩,⟨a2.1,by omega⟩⟩
theorem Win.Ok.idx {q:Win} (h:q.Ok) {ch:Nat} (hch:ch < q.C) {y x:Int} (y0:0<=y) (y1:y < q.H) (x0:0<=x) (x1:x < q.W):
  (0<=(ch:Int) * q.H/\(ch:Int) * q.H<=268435456)/\(0<=((ch:Int) * q.H+y) * q.W/\((ch:Int) * q.H+y) * q.W<=8796093022208)/\0<=((ch:Int) * q.H+y) * q.W+x/\((ch:Int) * q.H+y) * q.W+x < q.C * q.H * q.W:=by
 have:=h.c2;have:=h.h2;have:=h.w2;have a1:=prod_bd11 (a:=ch) (b:=q.H) (A:=16384) (B:=16384) (by omega) (by omega) (by omega) (by omega);have a2:=prod_bd11 (a:=(ch:Int) * q.H+y) (b:=q.W) (A:=268451840) (B:=16384) (by omega) (by omega) (by omega) (by omega)
 refine ⟨⟨a1.1,by omega⟩,⟨a2.1,by omega⟩,by omega,?_⟩
 have b1:((ch:Int)+1) * q.H<=q.C * q.H:=Int.mul_le_mul_of_nonneg_right (by omega) (by omega);rw [Int.add_mul] at b1;have b2:((ch:Int) * q.H+y+1) * q.W<=(q.C * q.H) * q.W:=Int.mul_le_mul_of_nonneg_right (by omega) (by omega);rw [Int.add_mul] at b2;omega
theorem Win.Ok.at_bd {q:Win} (h:q.Ok) {r c ch i k:Nat} (hch:ch < q.C): -1<=q.at r c ch i k/\q.at r c ch i k < q.C * q.H * q.W:=by
 unfold Win.at cellW
 split
 ·rename_i hin
  have:=h.idx hch hin.1 hin.2.1 hin.2.2.1 hin.2.2.2;omega
 ·have h1:=prod_bd11 (a:=q.C) (b:=q.H) (A:=q.C) (B:=q.H) (by omega) (by omega) (by omega) (by omega);have h2:=prod_bd11 (b:=q.W) (B:=q.W) h1.1 h1.2 (by omega) (by omega);omega
theorem Win.Ok.one_bd {q:Win} (h:q.Ok) (r c:Nat):∀ x ∈ q.one r c, -1<=x/\x < 16384:=by
 intro x hx;simp only [Win.one,Win.chan,Win.line,List.mem_flatMap,List.mem_map,List.mem_range] at hx;obtain ⟨ch,hch,i,_,k,_,rfl⟩:=hx;have:=h.at_bd (r:=r) (c:=c) (i:=i) (k:=k) hch;have h2:((q.C * q.H * q.W:Nat):Int)<=16384:=by have:=h.chw;omega
 simp only [Int.natCast_mul] at h2;omega
theorem flat_len {α:Type} (f:Nat->List α) (n m:Nat) (h:∀ i,i < n->(f i).length=m):((List.range n).flatMap f).length=n * m:=by
 induction n with
 | zero=>simp
 | succ n ih=>
  rw [List.range_succ,List.flatMap_append,List.length_append,ih (fun i hi=>h i (by omega))];simp [h n (by omega),Nat.add_mul]
theorem Win.line_len (q:Win) (r c ch i:Nat):(q.line r c ch i).length=q.kw:=by simp [Win.line]
theorem Win.chan_len (q:Win) (r c ch:Nat):(q.chan r c ch).length=q.kh * q.kw:=flat_len _ _ _ (fun i _=>q.line_len r c ch i)
theorem Win.one_len (q:Win) (r c:Nat):(q.one r c).length=q.C * (q.kh * q.kw):=flat_len _ _ _ (fun ch _=>q.chan_len r c ch)
theorem Win.rowOf_len (q:Win) (r:Nat):(q.rowOf r).length=q.Q:=by simp [Win.rowOf]
theorem Win.all_len (q:Win):q.all.length=q.R * q.Q:=flat_len _ _ _ (fun r _=>q.rowOf_len r)
theorem results_tmp4 {fn:Func} {t u v x:Tmp} (h:fn.results=#[.tmp t,.tmp u,.tmp v,.tmp x]) (tmps:Array Value) (P:Program) (w:World):
  (results fn tmps).run P w=.ok (.tuple #[tmps.getD t undef,tmps.getD u undef,tmps.getD v undef,tmps.getD x undef]) w:=by
 simp [results,h]
def sideB (n:Int):Bool:=decide (1<=n/\n<=64)
theorem tSide (n:Int) (w:World):Calls Tryz.prog 157 #[.int .i64 n] w fun e w'=>e=.returned (.bool (sideB n))/\w=w':=by
 by_cases h1:1<=n
 ·by_cases h2:n<=64
  ·have HS:=hid (show sideB n=true by simp [sideB,h1,h2])
   go_enter Tryz.func157,Tryz.ntmps157
   go_wp2;go_ret;exact ⟨ret_bool HS.out.symm,rfl⟩
  ·have HS:=hid (show sideB n=false by simp [sideB,h2])
   go_enter Tryz.func157,Tryz.ntmps157
   go_wp2;go_ret;exact ⟨ret_bool HS.out.symm,rfl⟩
 ·have HS:=hid (show sideB n=false by simp [sideB,h1])
  go_enter Tryz.func157,Tryz.ntmps157
  go_wp2;go_ret;exact ⟨ret_bool HS.out.symm,rfl⟩
def argBad (l:List Int) (kh kw s p:Int):Bool:= !validL l || !sideB kh || !sideB kw || !sideB s || decide (p < 0) || decide (kh<=p) || decide (kw<=p)
def shapeBad (l:List Int) (kh kw p:Int):Bool:=decide (l.length ≠ 3) || decide (l.getD 1 0+2 * p < kh) || decide (l.getD 2 0+2 * p < kw)
def winOf (l:List Int) (kh kw s p:Int):Win:=⟨(l.getD 0 0).toNat,(l.getD 1 0).toNat,(l.getD 2 0).toNat,kh.toNat,kw.toNat,s.toNat,p.toNat⟩
def windowsL (l:List Int) (kh kw s p:Int):List (List Int) × Int × Int × Int:=
 if argBad l kh kw s p then ([],0,0,1) else if shapeBad l kh kw p then ([],0,0,7)
 else if 262144 < (winOf l kh kw s p).total then ([],0,0,8) else ((winOf l kh kw s p).all,(winOf l kh kw s p).R,(winOf l kh kw s p).Q,0)
theorem windowsL_arg {l:List Int} {kh kw s p:Int} (h:argBad l kh kw s p=true):windowsL l kh kw s p=([],0,0,1):=by simp [windowsL,h]
theorem windowsL_shape {l:List Int} {kh kw s p:Int} (h:argBad l kh kw s p=false) (h2:shapeBad l kh kw p=true):windowsL l kh kw s p=([],0,0,7):=by simp [windowsL,h,h2]
theorem windowsL_many {l:List Int} {kh kw s p:Int} (h:argBad l kh kw s p=false) (h2:shapeBad l kh kw p=false) (h3:262144 < (winOf l kh kw s p).total):windowsL l kh kw s p=([],0,0,8):=by simp [windowsL,h,h2,h3]
theorem windowsL_ok {l:List Int} {kh kw s p:Int} (h:argBad l kh kw s p=false) (h2:shapeBad l kh kw p=false) (h3:¬ 262144 < (winOf l kh kw s p).total):
  windowsL l kh kw s p=((winOf l kh kw s p).all,((winOf l kh kw s p).R:Int),((winOf l kh kw s p).Q:Int),0):=by simp [windowsL,h,h2,h3]
def WinPost (w:World) (l:List Int) (kh kw s p:Int) (e:Ending) (w':World):Prop:=
 ∃ a c,e=.returned (.tuple #[.slice a (windowsL l kh kw s p).1.length c,.int .i64 (windowsL l kh kw s p).2.1,.int .i64 (windowsL l kh kw s p).2.2.1,.int .i64 (windowsL l kh kw s p).2.2.2])/\
  Intss w' (fun b=>w.heap.size<=b) a (windowsL l kh kw s p).1/\Below w.heap.size w w'
theorem winPost_err {w w':World} {l:List Int} {kh kw s p e:Int} (h:windowsL l kh kw s p=([],0,0,e)) (hb:Below w.heap.size w w'):
  WinPost w l kh kw s p (.returned (.tuple #[.slice none 0 0,.int .i64 0,.int .i64 0,.int .i64 e])) w':=by
 unfold WinPost;rw [h];exact ⟨none,0,rfl,Intss.nil _ _ _,hb⟩
theorem winOf_ok {l:List Int} {kh kw s p:Int} (h:argBad l kh kw s p=false) (h2:shapeBad l kh kw p=false):
  ∃ q:Win,q.Ok/\winOf l kh kw s p=q/\l=[(q.C:Int),(q.H:Int),(q.W:Int)]/\kh=q.kh/\kw=q.kw/\s=q.s/\p=q.p:=by
 simp only [argBad,Bool.or_eq_false_iff,Bool.not_eq_false',decide_eq_false_iff_not,sideB,decide_eq_true_eq] at h;simp only [shapeBad,Bool.or_eq_false_iff,decide_eq_false_iff_not,Decidable.not_not] at h2;obtain ⟨⟨⟨⟨⟨⟨hv,h3⟩,h4⟩,h5⟩,h6⟩,h7⟩,h8⟩:=h;obtain ⟨⟨hl,h9⟩,h10⟩:=h2
 match l,hl with
 | [c,a,b],_=>
  simp at h9 h10;have hm:=validL_mem hv;have hc:=hm c (by simp);have ha:=hm a (by simp);have hb:=hm b (by simp);have hf:=validL_from hv;obtain ⟨_,_,e1,e2,hf⟩:=validFrom_step (l:=[c,a,b]) (k:=0) rfl (by omega) hf;obtain ⟨_,_,e3,e4,hf⟩:=validFrom_step (l:=[c,a,b]) (k:=1) rfl e2 hf;obtain ⟨_,_,e5,_,_⟩:=validFrom_step (l:=[c,a,b]) (k:=2) rfl e4 hf
  refine ⟨winOf [c,a,b] kh kw s p,?_,rfl,?_,?_,?_,?_,?_⟩
  ·constructor <;> simp only [winOf,List.getD_cons_zero,List.getD_cons_succ]
   case chw=>
    have:((c.toNat * a.toNat * b.toNat:Nat):Int)<=16384:=by
     simp only [Int.natCast_mul];rw [Int.toNat_of_nonneg (by omega),Int.toNat_of_nonneg (by omega),Int.toNat_of_nonneg (by omega)]
     simpa using e5
    omega
   all_goals omega
  all_goals simp [winOf]
  all_goals omega
theorem tWin_arg {w:World} {F:Nat->Prop} {a:Option Addr} {l:List Int} (ca:Nat) (kh kw s p:Int) (h:Ints w F a l) (hbad:argBad l kh kw s p=true):
  Calls Tryz.prog 131 #[.slice a l.length ca,.int .i64 kh,.int .i64 kw,.int .i64 s,.int .i64 p] w (WinPost w l kh kw s p):=by
 have HS:=hid (windowsL_arg hbad);have hV:=tValid ca h;clear h;cases hv:validL l
 ·rw [hv] at hV;have HV:=hid hV;clear hv hV hbad
  go_enter Tryz.func131,Tryz.ntmps131
  go_wp2_with (first | (go_at_call 53;refine HV.out.mono ?_;rintro e w' ⟨rfl,rfl⟩) | (go_at_call 157;refine (tSide _ _).mono ?_;rintro e w' ⟨rfl,rfl⟩))
  refine bodyPost_ret (results_tmp4 rfl _ _ _) rfl ?_
  exact winPost_err HS.out (Below.refl _ _)
 rw [hv] at hV;have HV:=hid hV;clear hV;cases h1:sideB kh
 ·clear hv hbad
  go_enter Tryz.func131,Tryz.ntmps131
  go_wp2_with (first | (go_at_call 53;refine HV.out.mono ?_;rintro e w' ⟨rfl,rfl⟩) | (go_at_call 157;refine (tSide _ _).mono ?_;rintro e w' ⟨rfl,rfl⟩))
  refine bodyPost_ret (results_tmp4 rfl _ _ _) rfl ?_
  exact winPost_err HS.out (Below.refl _ _)
 cases h2:sideB kw
 ·clear hv hbad
  go_enter Tryz.func131,Tryz.ntmps131
  go_wp2_with (first | (go_at_call 53;refine HV.out.mono ?_;rintro e w' ⟨rfl,rfl⟩) | (go_at_call 157;refine (tSide _ _).mono ?_;rintro e w' ⟨rfl,rfl⟩))
  refine bodyPost_ret (results_tmp4 rfl _ _ _) rfl ?_
  exact winPost_err HS.out (Below.refl _ _)
 cases h3:sideB s
 ·clear hv hbad
  go_enter Tryz.func131,Tryz.ntmps131
  go_wp2_with (first | (go_at_call 53;refine HV.out.mono ?_;rintro e w' ⟨rfl,rfl⟩) | (go_at_call 157;refine (tSide _ _).mono ?_;rintro e w' ⟨rfl,rfl⟩))
  refine bodyPost_ret (results_tmp4 rfl _ _ _) rfl ?_
  exact winPost_err HS.out (Below.refl _ _)
 by_cases h4:p < 0
 ·clear hv hbad
  go_enter Tryz.func131,Tryz.ntmps131
  go_wp2_with (first | (go_at_call 53;refine HV.out.mono ?_;rintro e w' ⟨rfl,rfl⟩) | (go_at_call 157;refine (tSide _ _).mono ?_;rintro e w' ⟨rfl,rfl⟩))
  refine bodyPost_ret (results_tmp4 rfl _ _ _) rfl ?_
  exact winPost_err HS.out (Below.refl _ _)
 by_cases h5:kh<=p
 ·clear hv hbad
  go_enter Tryz.func131,Tryz.ntmps131
  go_wp2_with (first | (go_at_call 53;refine HV.out.mono ?_;rintro e w' ⟨rfl,rfl⟩) | (go_at_call 157;refine (tSide _ _).mono ?_;rintro e w' ⟨rfl,rfl⟩))
  refine bodyPost_ret (results_tmp4 rfl _ _ _) rfl ?_
  exact winPost_err HS.out (Below.refl _ _)
 by_cases h6:kw<=p
 ·clear hv hbad
  go_enter Tryz.func131,Tryz.ntmps131
  go_wp2_with (first | (go_at_call 53;refine HV.out.mono ?_;rintro e w' ⟨rfl,rfl⟩) | (go_at_call 157;refine (tSide _ _).mono ?_;rintro e w' ⟨rfl,rfl⟩))
  refine bodyPost_ret (results_tmp4 rfl _ _ _) rfl ?_
  exact winPost_err HS.out (Below.refl _ _)
 simp [argBad,hv,h1,h2,h3,h4,h5,h6] at hbad
theorem argBad_no {l:List Int} {kh kw s p:Int} (h:argBad l kh kw s p=false):
  validL l=true/\sideB kh=true/\sideB kw=true/\sideB s=true/\(1<=kh/\kh<=64)/\(1<=kw/\kw<=64)/\(1<=s/\s<=64)/\0<=p/\p < kh/\p < kw:=by
 simp only [argBad,Bool.or_eq_false_iff,Bool.not_eq_false',decide_eq_false_iff_not] at h;obtain ⟨⟨⟨⟨⟨⟨hv,h3⟩,h4⟩,h5⟩,h6⟩,h7⟩,h8⟩:=h
 refine ⟨hv,h3,h4,h5,?_,?_,?_,by omega,by omega,by omega⟩
 ·simpa [sideB] using h3
 ·simpa [sideB] using h4
 ·simpa [sideB] using h5
theorem tWin_shape {w:World} {F:Nat->Prop} {a:Option Addr} {l:List Int} (ca:Nat) (kh kw s p:Int) (h:Ints w F a l) (hno:argBad l kh kw s p=false) (hbad:shapeBad l kh kw p=true):
  Calls Tryz.prog 131 #[.slice a l.length ca,.int .i64 kh,.int .i64 kw,.int .i64 s,.int .i64 p] w (WinPost w l kh kw s p):=by
 have HS:=hid (windowsL_shape hno hbad);have hV:=tValid ca h;have hlen:=h.len;obtain ⟨hv,s1,s2,s3,b1,b2,b3,b4,b5,b6⟩:=argBad_no hno;have hm:=validL_mem hv;rw [hv] at hV;have HV:=hid hV;clear hV hv
 by_cases hl:l.length=3
 ·obtain ⟨bb,off,c,x,y,rfl,_,hx,hy,e0,e1,e2⟩:=h.three hl;have hx1:=hm x (List.mem_of_getElem? e1);have hy1:=hm y (List.mem_of_getElem? e2);have h3:3<=l.length:=by omega
  have hne:((l.length:Int) != 3)=false:=by simp;omega
  have hg1:l.getD 1 0=x:=by simp [List.getD,e1]
  have hg2:l.getD 2 0=y:=by simp [List.getD,e2]
  obtain ⟨HG1,HG2,HL⟩:=hd3 hg1 hg2 hl;clear hm h hno hl e0 e1 e2 hg1 hg2
  by_cases h1:x+2 * p < kh
  ·clear hbad
   go_enter Tryz.func131,Tryz.ntmps131
   go_wp2_with (first | (go_at_call 53;refine HV.out.mono ?_;rintro e w' ⟨rfl,rfl⟩) | (go_at_call 157;refine (tSide _ _).mono ?_;rintro e w' ⟨rfl,rfl⟩))
   refine bodyPost_ret (results_tmp4 rfl _ _ _) rfl ?_
   exact winPost_err HS.out (Below.refl _ _)
  by_cases h2:y+2 * p < kw
  ·clear hbad
   go_enter Tryz.func131,Tryz.ntmps131
   go_wp2_with (first | (go_at_call 53;refine HV.out.mono ?_;rintro e w' ⟨rfl,rfl⟩) | (go_at_call 157;refine (tSide _ _).mono ?_;rintro e w' ⟨rfl,rfl⟩))
   refine bodyPost_ret (results_tmp4 rfl _ _ _) rfl ?_
   exact winPost_err HS.out (Below.refl _ _)
  unfold shapeBad at hbad;rw [HG1.out,HG2.out] at hbad;simp only [HL.out] at hbad;simp at hbad;omega
 ·have hne:((l.length:Int) != 3)=true:=by rw [bne_iff_ne];omega
  clear hm hno hbad hl h
  go_enter Tryz.func131,Tryz.ntmps131
  go_wp2_with (first | (go_at_call 53;refine HV.out.mono ?_;rintro e w' ⟨rfl,rfl⟩) | (go_at_call 157;refine (tSide _ _).mono ?_;rintro e w' ⟨rfl,rfl⟩))
  refine bodyPost_ret (results_tmp4 rfl _ _ _) rfl ?_
  exact winPost_err HS.out (Below.refl _ _)
end Go.Proofs.YtfgmmghmmfmdgaaGreat
