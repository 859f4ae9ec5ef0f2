/-
  Contracts of the functions that the statement reaches: RefA, Draw, Slots, SlotsB, SlotsC, SlotsE, TenE.
-/
import Derived.Test.YtfgmmghmmfmdgaaGreatK4
set_option linter.all false
set_option maxRecDepth 100000
set_option maxHeartbeats 3200000
namespace Go.Proofs.YtfgmmghmmfmdgaaGreat
open Go.RowKit
open Go.Lib (hid)
theorem take_succ_at' {l:List Nat} {k x:Nat} (hx:l[k]? =some x):l.take (k+1)=l.take k++[x]:=by
 rw [List.take_add_one,hx];rfl
theorem r1Limb {w:World} {a:Option Addr} {l:List Nat} (c i:Nat) (hi:i<=9223372036854775807) (h:U32s w a l):
  Calls Tryz.prog 147 #[.slice a l.length c,.int .i64 (i:Int)] w fun e w'=>e=.returned (.int .u32 (dig l i:Int))/\w=w':=by
 have hl:=h.len
 by_cases hlt:i < l.length
 ·obtain ⟨b,off,rfl,_,hc⟩:=h.pick hlt;clear h
  go_enter Tryz.func147,Tryz.ntmps147
  go_wp2;go_ret;exact ⟨rfl,rfl⟩
 ·have hd:=hid (dig_out (l:=l) (i:=i) (by omega));clear h
  go_enter Tryz.func147,Tryz.ntmps147
  go_wp2;go_ret;exact ⟨by rw [hd.out];rfl,rfl⟩
theorem lval_ext {l:List Nat} {N:Nat} (h:l.length<=N):valN (dig l) N=lval l:=valN_more h (fun i h1 _=>dig_out h1)
theorem lval_lt_at {l m:List Nat} {N k:Nat} (hl:Lim l) (hN1:l.length<=N) (hN2:m.length<=N) (hk:k < N) (hs:∀ j,k+1<=j->j < N->dig l j=dig m j) (h:dig l k < dig m k):lval l < lval m:=by
 have:=valN_lt_at (f:=dig l) (g:=dig m) (n:=N) (i:=k) (fun j _=>dig_lt hl j) hk (fun j h1 h2=>hs j h1 h2) h
 rwa [lval_ext hN1,lval_ext hN2] at this
theorem r1Cmp {w:World} {a b:Option Addr} {l m:List Nat} (c d:Nat) (h:U32s w a l) (g:U32s w b m):
  Calls Tryz.prog 145 #[.slice a l.length c,.slice b m.length d] w fun e w'=>e=.returned (.int .i64 (cmpN (lval l) (lval m)))/\w=w':=by
 have hl:=h.len;have hm:=g.len;obtain ⟨HL,HM,HC1,HC2⟩:=hd4 h.lim g.lim (fun i hi=>r1Limb c i hi h) (fun i hi=>r1Limb d i hi g);clear h g;obtain ⟨N,hN⟩:∃ N:Nat,N=max l.length m.length:=⟨_,rfl⟩
 have hN1:l.length<=N:=by omega
 have hN2:m.length<=N:=by omega
 have hN3:N<=9223372036854775807:=by omega
 have hmx:max (l.length:Int) (m.length:Int)=(N:Int):=by omega
 clear hN
 go_enter Tryz.func145,Tryz.ntmps145
 go_wp2
 all_goals
  go_loop [5] (fun i=>∃ k:Nat,∃ I:Int,k<=N/\I+1=(k:Int)/\i=.int .i64 I/\Hid (∀ j,k<=j->j < N->dig l j=dig m j)) (fun i=>(intOf i+1).toNat)
  case atStart=>exact ⟨N,_,Nat.le_refl _,by omega,rfl,fun j h1 h2=>by omega⟩
  case round=>
   obtain ⟨k,I,hk,hI,rfl,hs⟩:=hrel
   try clear hmx
   cases k with
   | zero=>
    obtain rfl:I= -1:=by omega
    have HR:Hid (cmpN (lval l) (lval m)=0):=by
     unfold Hid;rw [<- lval_ext hN1, <- lval_ext hN2,valN_congr (fun j hj=>hs.out j (Nat.zero_le _) hj)];exact cmpN_eq _
    go_wp2;go_ret;exact ⟨ret_int HR.out.symm,rfl⟩
   | succ q=>
    obtain rfl:I=(q:Int):=by omega
    have b1:=dig_lt HL.out q;have b2:=dig_lt HM.out q
    rcases Nat.lt_trichotomy (dig l q) (dig m q) with h1 | h1 | h1
    ·obtain ⟨HR,C1,C2⟩:=hd3 (cmpN_lt (lval_lt_at HL.out hN1 hN2 (by omega) hs.out h1)) (HC1.out q (by omega)) (HC2.out q (by omega));clear HC1 HC2 hs;generalize dig l q=x at *;generalize dig m q=y at *;have d1:decide (x < y)=true:=decide_eq_true h1
     go_wp2_with (go_at_call 147;first | ((with_reducible refine C1.out.mono ?_);rintro e w' ⟨rfl,rfl⟩) | ((with_reducible refine C2.out.mono ?_);rintro e w' ⟨rfl,rfl⟩))
     go_ret;exact ⟨ret_int HR.out.symm,rfl⟩
    ·have HS2:Hid (∀ j,q<=j->j < N->dig l j=dig m j):=fun j g1 g2=>by
      by_cases hj:j=q
      ·rw [hj];exact h1
      ·exact hs.out j (by omega) g2
     obtain ⟨C1,C2⟩:=hd2 (HC1.out q (by omega)) (HC2.out q (by omega));rw [<- h1] at C2;clear hs h1 b2;generalize dig l q=x at *
     go_wp2_with (go_at_call 147;first | ((with_reducible refine C1.out.mono ?_);rintro e w' ⟨rfl,rfl⟩) | ((with_reducible refine C2.out.mono ?_);rintro e w' ⟨rfl,rfl⟩))
     go_round
     case rel=>exact ⟨q,(q:Int) - 1,by omega,by omega,rfl,HS2.out⟩
     case measure=>simp [intOf]
    ·obtain ⟨HR,C1,C2⟩:=hd3 (cmpN_gt (lval_lt_at HM.out hN2 hN1 (by omega) (fun j g1 g2=>(hs.out j g1 g2).symm) h1)) (HC1.out q (by omega)) (HC2.out q (by omega));clear HC1 HC2 hs;generalize dig l q=x at *;generalize dig m q=y at *;have d1:decide (x < y)=false:=decide_eq_false (by omega);have d2:decide (y < x)=true:=decide_eq_true h1
     go_wp2_with (go_at_call 147;first | ((with_reducible refine C1.out.mono ?_);rintro e w' ⟨rfl,rfl⟩) | ((with_reducible refine C2.out.mono ?_);rintro e w' ⟨rfl,rfl⟩))
     go_ret;exact ⟨ret_int HR.out.symm,rfl⟩
theorem r1Same {w:World} {a b:Option Addr} {l m:List Nat} (c d:Nat) (h:U32s w a l) (g:U32s w b m):
  Calls Tryz.prog 46 #[.slice a l.length c,.slice b m.length d] w fun e w'=>e=.returned (.bool (decide (l=m)))/\∃ n,w'=w.drewN n:=by
 have hl:=h.len;have hm:=g.len;obtain ⟨HA,HB⟩:=hd2 h g;clear h g
 go_enter Tryz.func46,Tryz.ntmps46
 by_cases he:l.length=m.length
 ·have HE:=hid he;have hlb:decide (¬ (l.length:Int)=(m.length:Int))=false:=by simp;omega
  have hlc:((l.length:Int)==(m.length:Int))=true:=by simp;omega
  have hge1:l.length<=m.length:=by omega
  have hge2:m.length<=l.length:=by omega
  go_wp2
  go_loopw [5] (fun i wr=>∃ j:Nat,j<=l.length/\i=.int .i64 (j:Int)/\Hid (l.take j=m.take j)/\Hid (∃ n,wr=w.drewN n)) (fun i _=>l.length - (intOf i).toNat)
  case atStart=>exact ⟨0,Nat.zero_le _,rfl,by simp [Hid],0,rfl⟩
  case round=>
   obtain ⟨j,hj,rfl,HT,HN⟩:=hrel;obtain ⟨nd,rfl⟩:=HN.out
   by_cases hlt:j < l.length
   ·have hltm:j < m.length:=by omega
    obtain ⟨p1,o1,rfl,_,cA⟩:=HA.out.pick hlt;obtain ⟨p2,o2,rfl,_,cB⟩:=HB.out.pick hltm;obtain ⟨TA,TB,GA,GB⟩:=hd4 (take_succ_at' (at_dig hlt)) (take_succ_at' (at_dig hltm)) (at_dig hlt) (at_dig hltm);generalize dig l j=x at *;generalize dig m j=y at *
    by_cases hxy:x=y
    ·subst hxy;go_wp2
     go_quiet (fail)
     go_wp2;go_roundw
     case rel=>exact ⟨j+1,hlt,by go_num,by unfold Hid;rw [TA.out,TB.out,HT.out],_,rfl⟩
     case measure=>simp [intOf];omega
    ·have hne:Hid (decide (l=m)=false):=by
      unfold Hid;rw [decide_eq_false_iff_not];rintro rfl;have h1:=GA.out.symm.trans GB.out;cases h1;exact hxy rfl
     have hxb:((x:Int)==(y:Int))=false:=by rw [beq_eq_false_iff_ne];omega
     go_wp2
     go_quiet (fail)
     go_wp2;go_ret;exact ⟨by rw [hne.out];rfl,drew2 _ _ _⟩
   ·obtain rfl:j=l.length:=by omega
    have he2:Hid (decide (l=m)=true):=by
     have h1:=HT.out;rw [List.take_length,HE.out,List.take_length] at h1;unfold Hid;simp [h1]
    go_wp2;go_ret;exact ⟨by rw [he2.out];rfl,_,rfl⟩
 ·have hne:Hid (decide (l=m)=false):=by
   unfold Hid;rw [decide_eq_false_iff_not];rintro rfl;exact he rfl
  go_wp2;go_ret;exact ⟨by rw [hne.out];rfl,0,rfl⟩
section
variable {P:Program} {ops:Array Oper} {Q:Exit->Act->World->Prop} {md:Region.Mode}
theorem ready_unlisted {listed:Array Bool} {i:Nat} (h:i ∈ Region.ready md ops listed):listed.getD i true=false:=by
 unfold Region.ready at h;have:=(List.mem_filter.1 h).2;simp only [Bool.and_eq_true,Bool.not_eq_true'] at this;exact this.1
theorem count_step {listed:Array Bool} {i:Nat} (h:listed.getD i true=false):(listed.setIfInBounds i true).toList.count false+1=listed.toList.count false:=by
 have hi:i < listed.size:=by
  rcases Nat.lt_or_ge i listed.size with h1 | h1
  ·exact h1
  ·simp [h1] at h
 have hv:listed.toList[i]'(by simpa using hi)=false:=by simpa [hi] using h
 rw [Array.toList_setIfInBounds,List.count_set (by simpa using hi),hv];have hp:0 < listed.toList.count false:=by
  rw [List.count_pos_iff, <- hv];exact List.getElem_mem _
 rw [if_pos (by rfl),if_neg (by decide)];omega
theorem wpAny_inv (Inv:Array Bool->Act->World->Prop) (hdone:∀ listed a w,Inv listed a w->Region.ready md ops listed=[]->Q .normal a w)
  (hstep:∀ listed a w i,Inv listed a w->i ∈ Region.ready md ops listed->wpOp P ops Q i (fun a' w'=>Inv (listed.setIfInBounds i true) a' w') a w):
  ∀ (fuel:Nat) (listed:Array Bool) (a:Act) (w:World),Inv listed a w->listed.toList.count false<=fuel->wpAny P md ops Q fuel listed a w:=by
 intro fuel
 induction fuel with
 | zero=>
  intro listed a w hI hc;have hr:Region.ready md ops listed=[]:=by
   rw [List.eq_nil_iff_forall_not_mem];intro i hi;have:=count_step (ready_unlisted hi);omega
  exact ⟨hr,hdone _ _ _ hI hr⟩
 | succ fuel ih=>
  intro listed a w hI hc
  refine ⟨fun hr=>hdone _ _ _ hI hr,fun i hi=>?_⟩
  have h1:=count_step (ready_unlisted hi);exact wpOp_mono (fun a' w' h=>ih _ a' w' h (by omega)) (hstep _ _ _ i hI hi)
theorem wp_region_inv {id:Nat} {a:Act} {w:World} (hm:P.follows .mixedOrders=true) (Inv:Array Bool->Act->World->Prop) (h0:Inv (Array.replicate ops.size false) a w.drew)
  (hdone:∀ listed a w,Inv listed a w->Region.ready .any ops listed=[]->Q .normal a w)
  (hstep:∀ listed a w i,Inv listed a w->i ∈ Region.ready .any ops listed->wpOp P ops Q i (fun a' w'=>Inv (listed.setIfInBounds i true) a' w') a w):
  (Code.region id ops true).wp P Q a w:=
 wp_region_any hm (wpAny_inv Inv hdone hstep _ _ _ _ h0 (by simp))
end
def fillFrom:List Oper->Nat->(Nat->Value)->Act->Act
 | [],_,_,a=>a
 | o::l,k,g,a=>fillFrom l (k+1) g (a.put o.dst (g k))
def aparts:List Oper->Bool
 | []=>true
 | o::l=>(match o.dst with | none=>true | some d=>l.all fun p=> !(p.dst==some d)) && aparts l
def backs:List Oper->Nat->Bool
 | [],_=>true
 | o::l,k=>o.after.all (fun e=> !Region.binds .any e || decide (e.on < k)) && backs l (k+1)
def upd (g:Nat->Value) (i:Nat) (v:Value):Nat->Value:=fun j=>if j=i then v else g j
section
theorem put_put (a:Act) (x:Option Tmp) (v u:Value):(a.put x v).put x u=a.put x u:=by
 cases x with
 | none=>rfl
 | some d=>simp [Act.put,Array.setIfInBounds_setIfInBounds]
theorem fillFrom_congr {g g':Nat->Value}:∀ (l:List Oper) (k:Nat) (a:Act),(∀ j,k<=j->g j=g' j)->fillFrom l k g a=fillFrom l k g' a:=by
 intro l
 induction l with
 | nil=>intro _ _ _;rfl
 | cons o l ih=>
  intro k a h;simp only [fillFrom];rw [h k (Nat.le_refl _)];exact ih _ _ (fun j hj=>h j (by omega))
theorem fillFrom_put {x:Option Tmp} {v:Value} {g:Nat->Value}:∀ (l:List Oper) (k:Nat) (a:Act),(∀ d,x=some d->∀ p ∈ l,p.dst ≠ some d)->(fillFrom l k g a).put x v=fillFrom l k g (a.put x v):=by
 intro l
 induction l with
 | nil=>intro _ _ _;rfl
 | cons o l ih=>
  intro k a h;simp only [fillFrom];rw [ih _ _ (fun d hd p hp=>h d hd p (List.mem_cons_of_mem _ hp)),Act.put_comm a v (g k) (fun d hd=>h d hd o List.mem_cons_self)]
theorem aparts_cons {o:Oper} {l:List Oper} (h:aparts (o::l)=true):(∀ d,o.dst=some d->∀ p ∈ l,p.dst ≠ some d)/\aparts l=true:=by
 unfold aparts at h;rw [Bool.and_eq_true] at h
 refine ⟨fun d hd p hp e=>?_,h.2⟩
 have h1:=h.1;rw [hd] at h1;have h2:=List.all_eq_true.1 h1 p hp;rw [e] at h2;simp at h2
theorem fillFrom_upd {g:Nat->Value} {v:Value}:∀ (l:List Oper) (k i:Nat) (a:Act),aparts l=true->i < l.length->(fillFrom l k g a).put ((l[i]?).bind (·.dst)) v=fillFrom l k (upd g (k+i) v) a:=by
 intro l
 induction l with
 | nil=>intro k i a _ hi;simp at hi
 | cons o l ih=>
  intro k i a ha hi;obtain ⟨h1,h2⟩:=aparts_cons ha
  cases i with
  | zero=>
   simp only [fillFrom,List.getElem?_cons_zero,Option.bind_some,Nat.add_zero];rw [fillFrom_put l _ _ h1,put_put,fillFrom_congr (g':=upd g k v) l (k+1) _ (fun j hj=>by unfold upd;rw [if_neg (by omega)])];unfold upd;rw [if_pos rfl]
  | succ i=>
   simp only [fillFrom,List.getElem?_cons_succ];rw [ih (k+1) i _ h2 (by simpa using hi)];have e:k+1+i=k+(i+1):=by omega
   rw [e]
   congr 2
   unfold upd;rw [if_neg (by omega)]
theorem put_self (a:Act) (x:Option Tmp):a.put x (match x with | some d=>a.tmps.getD d undef | none=>undef)=a:=by
 cases x with
 | none=>rfl
 | some d=>
  obtain ⟨t,df⟩:=a;unfold Act.put;simp only
  congr 1
  apply Array.ext_getElem?
  intro i;rw [Array.getElem?_setIfInBounds]
  split
  ·subst_vars
   split
   ·simp [Array.getD_eq_getD_getElem?, *]
   ·simp [*]
  ·rfl
def slotsOf (ops:List Oper) (a:Act):Nat->Value:=fun i=>match (ops[i]?).bind (·.dst) with | some d=>a.tmps.getD d undef | none=>undef
theorem fillFrom_self {a:Act}:∀ (l:List Oper) (k:Nat) (g:Nat->Value),(∀ i,i < l.length->g (k+i)=slotsOf l a i)->fillFrom l k g a=a:=by
 intro l
 induction l with
 | nil=>intro _ _ _;rfl
 | cons o l ih=>
  intro k g h;simp only [fillFrom];have h0:=h 0 (by simp);rw [Nat.add_zero] at h0;have e:a.put o.dst (g k)=a:=by
   rw [h0];unfold slotsOf;simp only [List.getElem?_cons_zero,Option.bind_some];exact put_self a o.dst
  rw [e];exact ih _ _ (fun i hi=>by
   have h1:=h (i+1) (by simpa using hi);rw [show k+1+i=k+(i+1) by omega,h1];unfold slotsOf;simp)
variable {P:Program} {Q:Exit->Act->World->Prop}
def Laid (G:Nat->Value->World->Prop) (g:Nat->Value) (w:World):List Edge->Prop
 | []=>True
 | e::es=>(Region.binds .any e=true->G e.on (g e.on) w)/\Laid G g w es
theorem Laid.of {G:Nat->Value->World->Prop} {g:Nat->Value} {w:World}:∀ (es:List Edge),(∀ e ∈ es,Region.binds .any e=true->G e.on (g e.on) w)->Laid G g w es:=by
 intro es
 induction es with
 | nil=>intro _;trivial
 | cons e es ih=>intro h;exact ⟨h e List.mem_cons_self,ih (fun x hx=>h x (List.mem_cons_of_mem _ hx))⟩
def Shows (P:Program) (ops:Array Oper) (Q:Exit->Act->World->Prop) (a0:Act) (fl:List Oper) (R:World->Prop) (S:World->World->Prop) (G:Nat->Value->World->Prop):List Oper->Nat->Prop
 | [],_=>True
 | o::l,i=>(∀ g w,R w->Laid G g w o.after.toList->wpList P ops (Exit.then (fun a' w'=>∃ v,a'=(fillFrom fl 0 g a0).put o.dst v/\R w'/\S w w'/\G i v w') Q) [o] (fillFrom fl 0 g a0) w)/\Shows P ops Q a0 fl R S G l (i+1)
theorem Shows.at {ops:Array Oper} {a0:Act} {fl:List Oper} {R:World->Prop} {S:World->World->Prop} {G:Nat->Value->World->Prop}:∀ (l:List Oper) (k:Nat),Shows P ops Q a0 fl R S G l k->∀ i o,l[i]? =some o->
  ∀ g w,R w->Laid G g w o.after.toList->wpList P ops (Exit.then (fun a' w'=>∃ v,a'=(fillFrom fl 0 g a0).put o.dst v/\R w'/\S w w'/\G (k+i) v w') Q) [o] (fillFrom fl 0 g a0) w:=by
 intro l
 induction l with
 | nil=>intro k _ i o h;simp at h
 | cons p l ih=>
  intro k h i o ho
  cases i with
  | zero=>simp at ho;subst ho;exact h.1
  | succ i=>
   have:=ih (k+1) h.2 i o (by simpa using ho);rw [show k+(i+1)=k+1+i by omega];exact this
theorem upon_then {o:Oper} {a:Act} {K:Act->World->Prop} {r:Result Go.Next} {K':Act->World->Prop} (hK:∀ a w,K' a w->K a w) (h:o.upon P a K' (Exit.then K Q) r):o.upon P a K Q r:=by
 cases r with
 | ok n w=>
  cases n <;> simp only [Oper.upon] at h ⊢ <;> first
   | exact hK _ _ h
   | exact Calls.mono h (fun e w'' he=>by
     cases e
     ·exact hK _ _ he
     ·exact he
     ·exact he)
   | exact Rows.mono h (fun _ _ he=>hK _ _ he)
 | halt x w=>cases x <;> simp only [Oper.upon] at h ⊢ <;> exact h
theorem wpList_then {ops:Array Oper} {o:Oper} {a:Act} {w:World} (h:wpList P ops Q [o] a w):wpList P ops (Exit.then (Q .normal) Q) [o] a w:=by
 have e:Exit.then (Q .normal) Q=Q:=by funext e a w;cases e <;> rfl
 rw [e];exact h
theorem wpOp_of_list {ops:Array Oper} {K:Act->World->Prop} {i:Nat} {o:Oper} (ho:ops[i]? =some o) {a:Act} {w:World} (h:wpList P ops (Exit.then K Q) [o] a w):wpOp P ops Q i K a w:=by
 unfold wpOp;rw [ho];simp only;unfold wpList at h
 split
 ·rename_i hw
  rw [if_pos hw] at h
  rcases h with h | ⟨h1,h2⟩
  ·exact .inl (upon_then (fun _ _ h=>h) h)
  ·exact .inr ⟨h1,h2⟩
 ·rename_i hw
  rw [if_neg hw] at h;exact h
theorem backs_at:∀ (l:List Oper) (k:Nat),backs l k=true->∀ i o,l[i]? =some o->∀ e ∈ o.after,Region.binds .any e=true->e.on < k+i:=by
 intro l
 induction l with
 | nil=>intro k _ i o h;simp at h
 | cons p l ih=>
  intro k h i o ho e he hb;unfold backs at h;rw [Bool.and_eq_true] at h
  cases i with
  | zero=>
   simp at ho;subst ho;have h1:=Array.all_eq_true_iff_forall_mem.1 h.1 e he;rw [hb] at h1
   simpa using h1
  | succ i=>
   have:=ih (k+1) h.2 i o (by simpa using ho) e he hb;omega
theorem all_listed {ops:Array Oper} {listed:Array Bool} (hs:listed.size=ops.size) (hbk:backs ops.toList 0=true) (hr:Region.ready .any ops listed=[]):∀ i,i < ops.size->listed.getD i false=true:=by
 intro i
 induction i using Nat.strongRecOn with
 | _ i ih=>
  intro hi
  cases hc:listed.getD i false with
  | true=>rfl
  | false=>
   exfalso
   have hc2:listed.getD i true=false:=by
    have hl:i < listed.size:=by omega
    simpa [hl] using hc
   have:i ∈ Region.ready .any ops listed:=mem_ready.2 ⟨hc2,ops[i],Array.getElem?_eq_getElem hi,fun e he hb=>by
    have hlt:=backs_at _ _ hbk i ops[i] (by simp [hi]) e he hb;rw [Nat.zero_add] at hlt;exact ih _ hlt (by omega)⟩
   rw [hr] at this;simp at this
def usedBy (ops:Array Oper) (n i:Nat):Bool:=(List.range n).any fun k=>decide (i < k) && (ops.getD k default).after.toList.any fun e=>Region.binds .any e && e.on==i
def usedAll (ops:Array Oper):Bool:=(List.range (ops.size - 1)).all fun i=>usedBy ops ops.size i
theorem usedAll_at {ops:Array Oper} (h:usedAll ops=true) {i:Nat} (hi:i+1 < ops.size):∃ (k:Nat) (o:Oper),i < k/\ops[k]? =some o/\∃ e ∈ o.after,Region.binds .any e=true/\e.on=i:=by
 have h1:=List.all_eq_true.1 h i (List.mem_range.2 (by omega));obtain ⟨k,hk,h2⟩:=List.any_eq_true.1 h1;rw [List.mem_range] at hk;rw [Bool.and_eq_true,decide_eq_true_eq] at h2;obtain ⟨e,he,h3⟩:=List.any_eq_true.1 h2.2;rw [Bool.and_eq_true,beq_iff_eq] at h3;have e1:ops.getD k default=ops[k]:=by simp [hk]
 rw [e1,Array.mem_toList_iff] at he;exact ⟨k,ops[k],h2.1,Array.getElem?_eq_getElem hk,e,he,h3.1,h3.2⟩
theorem last_ready {ops:Array Oper} {listed:Array Bool} (hu:usedAll ops=true) (hc:∀ i o,ops[i]? =some o->listed.getD i false=true->∀ e ∈ o.after,Region.binds .any e=true->listed.getD e.on false=true)
  (hr:ops.size - 1 ∈ Region.ready .any ops listed):∀ i,i+1 < ops.size->listed.getD i false=true:=by
 have key:∀ m i,ops.size - 1 - i=m->i+1 < ops.size->listed.getD i false=true:=by
  intro m
  induction m using Nat.strongRecOn with
  | _ m ih=>
   intro i hm hi;obtain ⟨k,o,hik,ho,e,he,hb,rfl⟩:=usedAll_at hu hi;have hk:=(Array.getElem?_eq_some_iff.1 ho).1
   by_cases hl:k+1 < ops.size
   ·exact hc k o ho (ih (ops.size - 1 - k) (by omega) k rfl hl) e he hb
   ·obtain rfl:k=ops.size - 1:=by omega
    obtain ⟨_,o',ho',hd⟩:=mem_ready.1 hr;rw [ho] at ho';cases ho';exact hd e he hb
 exact fun i hi=>key _ i rfl hi
def LaidAll (G:Nat->Value->World->Prop) (g:Nat->Value) (w:World):Nat->Prop
 | 0=>True
 | n+1=>LaidAll G g w n/\G n (g n) w
theorem LaidAll.of {G:Nat->Value->World->Prop} {g:Nat->Value} {w:World}:∀ (n:Nat),(∀ i,i < n->G i (g i) w)->LaidAll G g w n:=by
 intro n
 induction n with
 | zero=>intro _;trivial
 | succ n ih=>intro h;exact ⟨ih (fun i hi=>h i (by omega)),h n (by omega)⟩
theorem wp_region_slots {init:List Oper} {last:Oper} {id:Nat} {a:Act} {w:World} (hm:P.follows .mixedOrders=true) (hap:aparts init=true) (hbk:backs (init++[last]) 0=true) (hus:usedAll (init++[last]).toArray=true) (R:World->Prop) (S:World->World->Prop) (G:Nat->Value->World->Prop)
  (hG:∀ i v w w',G i v w->S w w'->G i v w') (h0:R w.drew) (hshow:Shows P (init++[last]).toArray Q a init R S G init 0)
  (hlast:∀ (g:Nat->Value) (w':World),R w'->LaidAll G g w' init.length->wpList P (init++[last]).toArray Q [last] (fillFrom init 0 g a) w'):(Code.region id (init++[last]).toArray true).wp P Q a w:=by
 have hsz:(init++[last]).toArray.size=init.length+1:=by simp
 refine wp_region_inv hm (fun listed a' w'=>listed.size=init.length+1/\(∀ i o,(init++[last]).toArray[i]? =some o->listed.getD i false=true->∀ e ∈ o.after,Region.binds .any e=true->listed.getD e.on false=true)/\
  ((listed.getD init.length false=false/\∃ g,a'=fillFrom init 0 g a/\R w'/\∀ i,i < init.length->listed.getD i false=true->G i (g i) w') ∨ ((∀ i,i < init.length+1->listed.getD i false=true)/\Q .normal a' w'))) ?_ ?_ ?_
 ·have hrep:∀ i,(Array.replicate (init++[last]).toArray.size false).getD i false=false:=by
   intro i;simp only [Array.getD_eq_getD_getElem?,Array.getElem?_replicate]
   split <;> rfl
  refine ⟨by simp,?_,.inl ⟨hrep _,slotsOf init a,(fillFrom_self _ _ _ (fun i _=>by rw [Nat.zero_add])).symm,h0,?_⟩⟩
  ·intro i o _ hi;rw [hrep] at hi;cases hi
  ·intro i _ hi;rw [hrep] at hi;cases hi
 ·rintro listed a' w' ⟨hs,hc,⟨hl,_⟩ | ⟨_,hq⟩⟩ hr
  ·have:=all_listed (by rw [hs,hsz]) hbk hr init.length (by rw [hsz];omega);rw [this] at hl;cases hl
  ·exact hq
 ·rintro listed a' w' i ⟨hs,hc,hI⟩ hi;obtain ⟨hu,o,ho,hdep⟩:=mem_ready.1 hi;have hlt:i < init.length+1:=by have:=(Array.getElem?_eq_some_iff.1 ho).1;rw [hsz] at this;exact this
  have hclo:∀ k o',(init++[last]).toArray[k]? =some o'->(listed.setIfInBounds i true).getD k false=true->∀ e ∈ o'.after,Region.binds .any e=true->(listed.setIfInBounds i true).getD e.on false=true:=by
   have hup:∀ j,listed.getD j false=true->(listed.setIfInBounds i true).getD j false=true:=by
    intro j hj
    by_cases hij:i=j
    ·subst hij;simp [Array.getD_eq_getD_getElem?,Array.getElem?_setIfInBounds,hs,hlt]
    ·rw [getD_set_ne _ hij];exact hj
   intro k o' ho' hk e he hb
   by_cases hik:i=k
   ·subst hik;rw [ho] at ho';cases ho';exact hup _ (hdep e he hb)
   ·rw [getD_set_ne _ hik] at hk;exact hup _ (hc k o' ho' hk e he hb)
  rcases hI with ⟨hl,g,rfl,hR,hall⟩ | ⟨hall,_⟩
  ·by_cases hil:i=init.length
   ·subst hil;have e0:o=last:=by simp at ho;exact ho.symm
    subst e0;have hA:∀ j,j < init.length->listed.getD j false=true:=fun j hj=>last_ready hus hc (by rw [hsz];exact hi) j (by rw [hsz];omega)
    have hs1:=hlast g w' hR (LaidAll.of _ fun j hj=>hall j hj (hA j hj))
    refine wpOp_mono ?_ (wpOp_of_list ho (K:=Q .normal) (wpList_then hs1))
    intro a2 w2 hq
    refine ⟨by simp [hs],hclo,.inr ⟨fun j hj=>?_,hq⟩⟩
    by_cases hij:init.length=j
    ·subst hij;simp [Array.getD_eq_getD_getElem?,Array.getElem?_setIfInBounds,hs]
    ·rw [getD_set_ne _ hij];exact hA j (by omega)
   ·have hil':i < init.length:=by omega
    have ho':init[i]? =some o:=by
     rw [List.getElem?_toArray,List.getElem?_append_left hil'] at ho;exact ho
    have hL:Laid G g w' o.after.toList:=Laid.of _ fun e he hb=>hall _ (by
     have:=backs_at _ _ hbk i o (by simpa using ho) e (by simpa using he) hb;omega) (hdep e (by simpa using he) hb)
    have hs1:=hshow.at _ _ i o ho' g w' hR hL;rw [Nat.zero_add] at hs1
    refine wpOp_mono ?_ (wpOp_of_list ho hs1)
    rintro a2 w2 ⟨v,rfl,hR2,hS2,hG2⟩
    refine ⟨by simp [hs],hclo,.inl ⟨by rw [getD_set_ne _ hil];exact hl,upd g i v,?_,hR2,fun j hjl hj=>?_⟩⟩
    ·have:=fillFrom_upd (g:=g) (v:=v) init 0 i a hap hil';rw [Nat.zero_add] at this;rw [<- this];simp [ho']
    ·by_cases hij:j=i
     ·subst hij;unfold upd;rw [if_pos rfl];exact hG2
     ·unfold upd;rw [if_neg hij]
      refine hG _ _ _ _ (hall j hjl ?_) hS2
      rw [getD_set_ne _ (Ne.symm hij)] at hj;exact hj
  ·exfalso
   have h1:=hall i hlt;rw [Array.getD_eq_getD_getElem?] at h1 hu
   cases hx:listed[i]? with
   | none=>rw [hx] at h1;cases h1
   | some b=>rw [hx] at h1 hu;simp at h1 hu;rw [h1] at hu;cases hu
theorem wp_region_slots_lit {l:List Oper} {id:Nat} {a:Act} {w:World} (hm:P.follows .mixedOrders=true) (hl:l=l.dropLast++[l.getLastD default]) (hap:aparts l.dropLast=true) (hbk:backs l 0=true) (hus:usedAll l.toArray=true) (R:World->Prop) (S:World->World->Prop) (G:Nat->Value->World->Prop)
  (hG:∀ i v w w',G i v w->S w w'->G i v w') (h0:R w.drew) (hshow:∀ ops,Shows P ops Q a l.dropLast R S G l.dropLast 0)
  (hlast:∀ ops (g:Nat->Value) (w':World),R w'->LaidAll G g w' l.dropLast.length->wpList P ops Q [l.getLastD default] (fillFrom l.dropLast 0 g a) w'):(Code.region id l.toArray true).wp P Q a w:=by
 have h1:=wp_region_slots (P:=P) (Q:=Q) (init:=l.dropLast) (last:=l.getLastD default) (id:=id) (a:=a) (w:=w) hm hap (by rw [<- hl];exact hbk) (by rw [<- hl];exact hus) R S G hG h0 (hshow _) (hlast _);rw [<- hl] at h1;exact h1
end
section
variable {P:Program} {Q:Exit->Act->World->Prop}
def usedUpto (ops:Array Oper) (t:Nat):Bool:=(List.range t).all fun i=>(List.range (t+1)).any fun k=>decide (i < k) && (ops.getD k default).after.toList.any fun e=>Region.binds .any e && e.on==i
theorem usedUpto_at {ops:Array Oper} {t:Nat} (ht:t < ops.size) (h:usedUpto ops t=true) {i:Nat} (hi:i < t):∃ (k:Nat) (o:Oper),i < k/\k<=t/\ops[k]? =some o/\∃ e ∈ o.after,Region.binds .any e=true/\e.on=i:=by
 have h1:=List.all_eq_true.1 h i (List.mem_range.2 hi);obtain ⟨k,hk,h2⟩:=List.any_eq_true.1 h1;rw [List.mem_range] at hk;rw [Bool.and_eq_true,decide_eq_true_eq] at h2;obtain ⟨e,he,h3⟩:=List.any_eq_true.1 h2.2;rw [Bool.and_eq_true,beq_iff_eq] at h3;have hks:k < ops.size:=by omega
 have e1:ops.getD k default=ops[k]:=by simp [hks]
 rw [e1,Array.mem_toList_iff] at he;exact ⟨k,ops[k],h2.1,by omega,Array.getElem?_eq_getElem hks,e,he,h3.1,h3.2⟩
theorem upto_ready {ops:Array Oper} {listed:Array Bool} {t:Nat} (ht:t < ops.size) (hu:usedUpto ops t=true) (hc:∀ i o,ops[i]? =some o->listed.getD i false=true->∀ e ∈ o.after,Region.binds .any e=true->listed.getD e.on false=true)
  (hr:t ∈ Region.ready .any ops listed):∀ i,i < t->listed.getD i false=true:=by
 have key:∀ m i,t - i=m->i < t->listed.getD i false=true:=by
  intro m
  induction m using Nat.strongRecOn with
  | _ m ih=>
   intro i hm hi;obtain ⟨k,o,hik,hkt,ho,e,he,hb,rfl⟩:=usedUpto_at ht hu hi
   by_cases hl:k < t
   ·exact hc k o ho (ih (t - k) (by omega) k rfl hl) e he hb
   ·obtain rfl:k=t:=by omega
    obtain ⟨_,o',ho',hd⟩:=mem_ready.1 hr;rw [ho] at ho';cases ho';exact hd e he hb
 exact fun i hi=>key _ i rfl hi
theorem wpOp_of_cons {ops:Array Oper} {i:Nat} {o:Oper} {rest:List Oper} (ho:ops[i]? =some o) {a:Act} {w:World} (h:wpList P ops Q (o::rest) a w):wpOp P ops Q i (wpList P ops Q rest) a w:=by
 unfold wpOp;rw [ho];simp only;unfold wpList at h;exact h
theorem wp_region_slots_tail {l:List Oper} (n:Nat) {id:Nat} {a:Act} {w:World} (hm:P.follows .mixedOrders=true) (hap:aparts (l.take n)=true) (hbk:backs l 0=true) (hus:((List.range (l.length - n)).all fun j=>usedUpto l.toArray (n+j))=true) (hn:n < l.length) (R:World->Prop) (S:World->World->Prop) (G:Nat->Value->World->Prop)
  (hG:∀ i v w w',G i v w->S w w'->G i v w') (h0:R w.drew) (hshow:∀ ops,Shows P ops Q a (l.take n) R S G (l.take n) 0)
  (hlast:∀ ops (g:Nat->Value) (w':World),R w'->LaidAll G g w' n->wpList P ops Q (l.drop n) (fillFrom (l.take n) 0 g a) w'):(Code.region id l.toArray true).wp P Q a w:=by
 have hsz:l.toArray.size=l.length:=by simp
 have htl:(l.take n).length=n:=by rw [List.length_take];omega
 have hup:∀ t,n<=t->t < l.length->usedUpto l.toArray t=true:=by
  intro t h1 h2;have:=List.all_eq_true.1 hus (t - n) (List.mem_range.2 (by omega));rw [show n+(t - n)=t by omega] at this;exact this
 refine wp_region_inv hm (fun listed a' w'=>listed.size=l.length/\(∀ i o,l.toArray[i]? =some o->listed.getD i false=true->∀ e ∈ o.after,Region.binds .any e=true->listed.getD e.on false=true)/\
  (((∀ i,n<=i->listed.getD i false=false)/\∃ g,a'=fillFrom (l.take n) 0 g a/\R w'/\∀ i,i < n->listed.getD i false=true->G i (g i) w') ∨
   (∃ m,n < m/\m<=l.length/\(∀ i,i < m->listed.getD i false=true)/\(∀ i,m<=i->listed.getD i false=false)/\wpList P l.toArray Q (l.drop m) a' w'))) ?_ ?_ ?_
 ·have hrep:∀ i,(Array.replicate l.toArray.size false).getD i false=false:=by
   intro i;simp only [Array.getD_eq_getD_getElem?,Array.getElem?_replicate]
   split <;> rfl
  refine ⟨by simp,?_,.inl ⟨fun i _=>hrep i,slotsOf (l.take n) a,(fillFrom_self _ _ _ (fun i _=>by rw [Nat.zero_add])).symm,h0,?_⟩⟩
  ·intro i o _ hi;rw [hrep] at hi;cases hi
  ·intro i _ hi;rw [hrep] at hi;cases hi
 ·rintro listed a' w' ⟨hs,hc,⟨hl,_⟩ | ⟨m,h1,h2,_,h4,hq⟩⟩ hr
  ·have:=all_listed (by rw [hs,hsz]) hbk hr n (by rw [hsz];exact hn);rw [hl n (Nat.le_refl _)] at this;cases this
  ·have hml:m=l.length:=by
    rcases Nat.lt_or_ge m l.length with h | h
    ·have:=all_listed (by rw [hs,hsz]) hbk hr m (by rw [hsz];exact h);rw [h4 m (Nat.le_refl _)] at this;cases this
    ·omega
   rw [hml,List.drop_length] at hq;exact hq
 ·rintro listed a' w' i ⟨hs,hc,hI⟩ hi;obtain ⟨hu,o,ho,hdep⟩:=mem_ready.1 hi;have hlt:i < l.length:=by have:=(Array.getElem?_eq_some_iff.1 ho).1;rw [hsz] at this;exact this
  have hset:(listed.setIfInBounds i true).getD i false=true:=by simp [Array.getD_eq_getD_getElem?,Array.getElem?_setIfInBounds,hs,hlt]
  have hclo:∀ k o',l.toArray[k]? =some o'->(listed.setIfInBounds i true).getD k false=true->∀ e ∈ o'.after,Region.binds .any e=true->(listed.setIfInBounds i true).getD e.on false=true:=by
   have hupl:∀ j,listed.getD j false=true->(listed.setIfInBounds i true).getD j false=true:=by
    intro j hj
    by_cases hij:i=j
    ·subst hij;exact hset
    ·rw [getD_set_ne _ hij];exact hj
   intro k o' ho' hk e he hb
   by_cases hik:i=k
   ·subst hik;rw [ho] at ho';cases ho';exact hupl _ (hdep e he hb)
   ·rw [getD_set_ne _ hik] at hk;exact hupl _ (hc k o' ho' hk e he hb)
  rcases hI with ⟨hl,g,rfl,hR,hall⟩ | ⟨m,h1,h2,h3,h4,hq⟩
  ·by_cases hil:n<=i
   ·have hA:=upto_ready (by rw [hsz];exact hlt) (hup i hil hlt) hc hi;have hin:i=n:=by
     rcases Nat.lt_or_ge n i with h | h
     ·have:=hA n h;rw [hl n (Nat.le_refl _)] at this;cases this
     ·omega
    subst hin;have hs1:=hlast l.toArray g w' hR (LaidAll.of _ fun j hj=>hall j hj (hA j hj));have ho':l[i]? =some o:=by simpa using ho
    have hd:l.drop i=o::l.drop (i+1):=by
     have hx:l[i]=o:=by rw [List.getElem?_eq_getElem hlt] at ho';exact Option.some.inj ho'
     rw [List.drop_eq_getElem_cons hlt,hx]
    rw [hd] at hs1
    refine wpOp_mono ?_ (wpOp_of_cons ho hs1)
    intro a2 w2 hq
    refine ⟨by simp [hs],hclo,.inr ⟨i+1,by omega,by omega,fun j hj=>?_,fun j hj=>?_,hq⟩⟩
    ·by_cases hij:i=j
     ·subst hij;exact hset
     ·rw [getD_set_ne _ hij];exact hA j (by omega)
    ·rw [getD_set_ne _ (by omega)];exact hl j (by omega)
   ·have hil':i < n:=by omega
    have ho':(l.take n)[i]? =some o:=by
     rw [List.getElem?_take,if_pos hil'];simpa using ho
    have hL:Laid G g w' o.after.toList:=Laid.of _ fun e he hb=>hall _ (by
     have:=backs_at _ _ hbk i o (by simpa using ho) e (by simpa using he) hb;omega) (hdep e (by simpa using he) hb)
    have hs1:=(hshow l.toArray).at _ _ i o ho' g w' hR hL;rw [Nat.zero_add] at hs1
    refine wpOp_mono ?_ (wpOp_of_list ho hs1)
    rintro a2 w2 ⟨v,rfl,hR2,hS2,hG2⟩
    refine ⟨by simp [hs],hclo,.inl ⟨fun j hj=>by rw [getD_set_ne _ (by omega)];exact hl j hj,upd g i v,?_,hR2,fun j hjl hj=>?_⟩⟩
    ·have:=fillFrom_upd (g:=g) (v:=v) (l.take n) 0 i a hap (by rw [htl];exact hil');rw [Nat.zero_add] at this;rw [<- this];simp only [ho',Option.bind_some]
    ·by_cases hij:j=i
     ·subst hij;unfold upd;rw [if_pos rfl];exact hG2
     ·unfold upd;rw [if_neg hij]
      refine hG _ _ _ _ (hall j hjl ?_) hS2
      rw [getD_set_ne _ (Ne.symm hij)] at hj;exact hj
  ·have hmi:m<=i:=by
    rcases Nat.lt_or_ge i m with h | h
    ·have h5:=h3 i h;rw [Array.getD_eq_getD_getElem?] at h5 hu
     cases hx:listed[i]? with
     | none=>rw [hx] at h5;cases h5
     | some b=>rw [hx] at h5 hu;simp at h5 hu;rw [h5] at hu;cases hu
    ·exact h
   have hA:=upto_ready (by rw [hsz];exact hlt) (hup i (by omega) hlt) hc hi;have him:i=m:=by
    rcases Nat.lt_or_ge m i with h | h
    ·have:=hA m h;rw [h4 m (Nat.le_refl _)] at this;cases this
    ·omega
   subst him;have ho':l[i]? =some o:=by simpa using ho
   have hd:l.drop i=o::l.drop (i+1):=by
    have hx:l[i]=o:=by rw [List.getElem?_eq_getElem hlt] at ho';exact Option.some.inj ho'
    rw [List.drop_eq_getElem_cons hlt,hx]
   rw [hd] at hq
   refine wpOp_mono ?_ (wpOp_of_cons ho hq)
   intro a2 w2 hq
   refine ⟨by simp [hs],hclo,.inr ⟨i+1,by omega,by omega,fun j hj=>?_,fun j hj=>?_,hq⟩⟩
   ·by_cases hij:i=j
    ·subst hij;exact hset
    ·rw [getD_set_ne _ hij];exact h3 j (by omega)
   ·rw [getD_set_ne _ (by omega)];exact h4 j (by omega)
end
section
variable {P:Program} {Q:Exit->Act->World->Prop}
def mark (d:Nat->Bool) (i:Nat):Nat->Bool:=fun j=>if j=i then true else d j
def Waits (d:Nat->Bool):List Edge->Prop
 | []=>True
 | e::es=>(Region.binds .any e=true->d e.on=true)/\Waits d es
theorem Waits.of {d:Nat->Bool}:∀ (es:List Edge),(∀ e ∈ es,Region.binds .any e=true->d e.on=true)->Waits d es:=by
 intro es
 induction es with
 | nil=>intro _;trivial
 | cons e es ih=>intro h;exact ⟨h e List.mem_cons_self,ih (fun x hx=>h x (List.mem_cons_of_mem _ hx))⟩
def ShowsJ (P:Program) (ops:Array Oper) (Q:Exit->Act->World->Prop) (a0:Act) (fl:List Oper) (J:(Nat->Bool)->(Nat->Value)->World->Prop):List Oper->Nat->Prop
 | [],_=>True
 | o::l,i=>(∀ d g w,J d g w->d i=false->Waits d o.after.toList->wpList P ops (Exit.then (fun a' w'=>∃ v,a'=(fillFrom fl 0 g a0).put o.dst v/\J (mark d i) (upd g i v) w') Q) [o] (fillFrom fl 0 g a0) w)/\ShowsJ P ops Q a0 fl J l (i+1)
theorem ShowsJ.at {ops:Array Oper} {a0:Act} {fl:List Oper} {J:(Nat->Bool)->(Nat->Value)->World->Prop}:∀ (l:List Oper) (k:Nat),ShowsJ P ops Q a0 fl J l k->∀ i o,l[i]? =some o->
  ∀ d g w,J d g w->d (k+i)=false->Waits d o.after.toList->wpList P ops (Exit.then (fun a' w'=>∃ v,a'=(fillFrom fl 0 g a0).put o.dst v/\J (mark d (k+i)) (upd g (k+i) v) w') Q) [o] (fillFrom fl 0 g a0) w:=by
 intro l
 induction l with
 | nil=>intro k _ i o h;simp at h
 | cons p l ih=>
  intro k h i o ho
  cases i with
  | zero=>simp at ho;subst ho;exact h.1
  | succ i=>
   have:=ih (k+1) h.2 i o (by simpa using ho);rw [show k+(i+1)=k+1+i by omega];exact this
theorem wp_region_slots_gen {l:List Oper} (n:Nat) {id:Nat} {a:Act} {w:World} (hm:P.follows .mixedOrders=true) (hap:aparts (l.take n)=true) (hbk:backs l 0=true) (hus:((List.range (l.length - n)).all fun j=>usedUpto l.toArray (n+j))=true) (hn:n < l.length) (J:(Nat->Bool)->(Nat->Value)->World->Prop)
  (h0:∀ g,J (fun _=>false) g w.drew) (hshow:∀ ops,ShowsJ P ops Q a (l.take n) J (l.take n) 0)
  (hlast:∀ ops (d:Nat->Bool) (g:Nat->Value) (w':World),(∀ i,i < n->d i=true)->J d g w'->wpList P ops Q (l.drop n) (fillFrom (l.take n) 0 g a) w'):(Code.region id l.toArray true).wp P Q a w:=by
 have hsz:l.toArray.size=l.length:=by simp
 have htl:(l.take n).length=n:=by rw [List.length_take];omega
 have hup:∀ t,n<=t->t < l.length->usedUpto l.toArray t=true:=by
  intro t h1 h2;have:=List.all_eq_true.1 hus (t - n) (List.mem_range.2 (by omega));rw [show n+(t - n)=t by omega] at this;exact this
 refine wp_region_inv hm (fun listed a' w'=>listed.size=l.length/\(∀ i o,l.toArray[i]? =some o->listed.getD i false=true->∀ e ∈ o.after,Region.binds .any e=true->listed.getD e.on false=true)/\
  (((∀ i,n<=i->listed.getD i false=false)/\∃ g,a'=fillFrom (l.take n) 0 g a/\J (fun i=>listed.getD i false) g w') ∨
   (∃ m,n < m/\m<=l.length/\(∀ i,i < m->listed.getD i false=true)/\(∀ i,m<=i->listed.getD i false=false)/\wpList P l.toArray Q (l.drop m) a' w'))) ?_ ?_ ?_
 ·have hrep:∀ i,(Array.replicate l.toArray.size false).getD i false=false:=by
   intro i;simp only [Array.getD_eq_getD_getElem?,Array.getElem?_replicate]
   split <;> rfl
  refine ⟨by simp,?_,.inl ⟨fun i _=>hrep i,slotsOf (l.take n) a,(fillFrom_self _ _ _ (fun i _=>by rw [Nat.zero_add])).symm,?_⟩⟩
  ·intro i o _ hi;rw [hrep] at hi;cases hi
  ·rw [show (fun i=>(Array.replicate l.toArray.size false).getD i false)=fun _=>false from funext hrep];exact h0 _
 ·rintro listed a' w' ⟨hs,hc,⟨hl,_⟩ | ⟨m,h1,h2,_,h4,hq⟩⟩ hr
  ·have:=all_listed (by rw [hs,hsz]) hbk hr n (by rw [hsz];exact hn);rw [hl n (Nat.le_refl _)] at this;cases this
  ·have hml:m=l.length:=by
    rcases Nat.lt_or_ge m l.length with h | h
    ·have:=all_listed (by rw [hs,hsz]) hbk hr m (by rw [hsz];exact h);rw [h4 m (Nat.le_refl _)] at this;cases this
    ·omega
   rw [hml,List.drop_length] at hq;exact hq
 ·rintro listed a' w' i ⟨hs,hc,hI⟩ hi;obtain ⟨hu,o,ho,hdep⟩:=mem_ready.1 hi;have hlt:i < l.length:=by have:=(Array.getElem?_eq_some_iff.1 ho).1;rw [hsz] at this;exact this
  have hset:(listed.setIfInBounds i true).getD i false=true:=by simp [Array.getD_eq_getD_getElem?,Array.getElem?_setIfInBounds,hs,hlt]
  have hclo:∀ k o',l.toArray[k]? =some o'->(listed.setIfInBounds i true).getD k false=true->∀ e ∈ o'.after,Region.binds .any e=true->(listed.setIfInBounds i true).getD e.on false=true:=by
   have hupl:∀ j,listed.getD j false=true->(listed.setIfInBounds i true).getD j false=true:=by
    intro j hj
    by_cases hij:i=j
    ·subst hij;exact hset
    ·rw [getD_set_ne _ hij];exact hj
   intro k o' ho' hk e he hb
   by_cases hik:i=k
   ·subst hik;rw [ho] at ho';cases ho';exact hupl _ (hdep e he hb)
   ·rw [getD_set_ne _ hik] at hk;exact hupl _ (hc k o' ho' hk e he hb)
  rcases hI with ⟨hl,g,rfl,hJ⟩ | ⟨m,h1,h2,h3,h4,hq⟩
  ·by_cases hil:n<=i
   ·have hA:=upto_ready (by rw [hsz];exact hlt) (hup i hil hlt) hc hi;have hin:i=n:=by
     rcases Nat.lt_or_ge n i with h | h
     ·have:=hA n h;rw [hl n (Nat.le_refl _)] at this;cases this
     ·omega
    subst hin;have hs1:=hlast l.toArray _ g w' hA hJ;have ho':l[i]? =some o:=by simpa using ho
    have hd:l.drop i=o::l.drop (i+1):=by
     have hx:l[i]=o:=by rw [List.getElem?_eq_getElem hlt] at ho';exact Option.some.inj ho'
     rw [List.drop_eq_getElem_cons hlt,hx]
    rw [hd] at hs1
    refine wpOp_mono ?_ (wpOp_of_cons ho hs1)
    intro a2 w2 hq
    refine ⟨by simp [hs],hclo,.inr ⟨i+1,by omega,by omega,fun j hj=>?_,fun j hj=>?_,hq⟩⟩
    ·by_cases hij:i=j
     ·subst hij;exact hset
     ·rw [getD_set_ne _ hij];exact hA j (by omega)
    ·rw [getD_set_ne _ (by omega)];exact hl j (by omega)
   ·have hil':i < n:=by omega
    have ho':(l.take n)[i]? =some o:=by
     rw [List.getElem?_take,if_pos hil'];simpa using ho
    have hu0:listed.getD i false=false:=by
     rw [Array.getD_eq_getD_getElem?] at hu ⊢
     cases hx:listed[i]? with
     | none=>rfl
     | some b=>rw [hx] at hu;simpa using hu
    have hs1:=(hshow l.toArray).at _ _ i o ho' _ g w' hJ (by rw [Nat.zero_add];exact hu0) (Waits.of _ fun e he hb=>hdep e (by simpa using he) hb);rw [Nat.zero_add] at hs1
    refine wpOp_mono ?_ (wpOp_of_list ho hs1)
    rintro a2 w2 ⟨v,rfl,hJ2⟩
    refine ⟨by simp [hs],hclo,.inl ⟨fun j hj=>by rw [getD_set_ne _ (by omega)];exact hl j hj,upd g i v,?_,?_⟩⟩
    ·have:=fillFrom_upd (g:=g) (v:=v) (l.take n) 0 i a hap (by rw [htl];exact hil');rw [Nat.zero_add] at this;rw [<- this];simp only [ho',Option.bind_some]
    ·have e:(fun j=>(listed.setIfInBounds i true).getD j false)=mark (fun j=>listed.getD j false) i:=by
      funext j
      unfold mark
      by_cases hij:j=i
      ·subst hij;rw [if_pos rfl];exact hset
      ·rw [if_neg hij,getD_set_ne _ (Ne.symm hij)]
     rw [e];exact hJ2
  ·have hmi:m<=i:=by
    rcases Nat.lt_or_ge i m with h | h
    ·have h5:=h3 i h;rw [Array.getD_eq_getD_getElem?] at h5 hu
     cases hx:listed[i]? with
     | none=>rw [hx] at h5;cases h5
     | some b=>rw [hx] at h5 hu;simp at h5 hu;rw [h5] at hu;cases hu
    ·exact h
   have hA:=upto_ready (by rw [hsz];exact hlt) (hup i (by omega) hlt) hc hi;have him:i=m:=by
    rcases Nat.lt_or_ge m i with h | h
    ·have:=hA m h;rw [h4 m (Nat.le_refl _)] at this;cases this
    ·omega
   subst him;have ho':l[i]? =some o:=by simpa using ho
   have hd:l.drop i=o::l.drop (i+1):=by
    have hx:l[i]=o:=by rw [List.getElem?_eq_getElem hlt] at ho';exact Option.some.inj ho'
    rw [List.drop_eq_getElem_cons hlt,hx]
   rw [hd] at hq
   refine wpOp_mono ?_ (wpOp_of_cons ho hq)
   intro a2 w2 hq
   refine ⟨by simp [hs],hclo,.inr ⟨i+1,by omega,by omega,fun j hj=>?_,fun j hj=>?_,hq⟩⟩
   ·by_cases hij:i=j
    ·subst hij;exact hset
    ·rw [getD_set_ne _ hij];exact h3 j (by omega)
   ·rw [getD_set_ne _ (by omega)];exact h4 j (by omega)
end
section
variable {P:Program} {Q:Exit->Act->World->Prop}
theorem wp_region_slots_all {l:List Oper} {id:Nat} {a:Act} {w:World} (hm:P.follows .mixedOrders=true) (hap:aparts l=true) (hbk:backs l 0=true) (J:(Nat->Bool)->(Nat->Value)->World->Prop)
  (h0:∀ g,J (fun _=>false) g w.drew) (hshow:∀ ops,ShowsJ P ops Q a l J l 0)
  (hlast:∀ (d:Nat->Bool) (g:Nat->Value) (w':World),(∀ i,i < l.length->d i=true)->J d g w'->Q .normal (fillFrom l 0 g a) w'):(Code.region id l.toArray true).wp P Q a w:=by
 have hsz:l.toArray.size=l.length:=by simp
 refine wp_region_inv hm (fun listed a' w'=>listed.size=l.length/\(∀ i o,l.toArray[i]? =some o->listed.getD i false=true->∀ e ∈ o.after,Region.binds .any e=true->listed.getD e.on false=true)/\
  ∃ g,a'=fillFrom l 0 g a/\J (fun i=>listed.getD i false) g w') ?_ ?_ ?_
 ·have hrep:∀ i,(Array.replicate l.toArray.size false).getD i false=false:=by
   intro i;simp only [Array.getD_eq_getD_getElem?,Array.getElem?_replicate]
   split <;> rfl
  refine ⟨by simp,?_,slotsOf l a,(fillFrom_self _ _ _ (fun i _=>by rw [Nat.zero_add])).symm,?_⟩
  ·intro i o _ hi;rw [hrep] at hi;cases hi
  ·rw [show (fun i=>(Array.replicate l.toArray.size false).getD i false)=fun _=>false from funext hrep];exact h0 _
 ·rintro listed a' w' ⟨hs,hc,g,rfl,hJ⟩ hr;exact hlast _ g w' (fun i hi=>all_listed (by rw [hs,hsz]) hbk hr i (by rw [hsz];exact hi)) hJ
 ·rintro listed a' w' i ⟨hs,hc,g,rfl,hJ⟩ hi;obtain ⟨hu,o,ho,hdep⟩:=mem_ready.1 hi;have hlt:i < l.length:=by have:=(Array.getElem?_eq_some_iff.1 ho).1;rw [hsz] at this;exact this
  have hset:(listed.setIfInBounds i true).getD i false=true:=by simp [Array.getD_eq_getD_getElem?,Array.getElem?_setIfInBounds,hs,hlt]
  have hclo:∀ k o',l.toArray[k]? =some o'->(listed.setIfInBounds i true).getD k false=true->∀ e ∈ o'.after,Region.binds .any e=true->(listed.setIfInBounds i true).getD e.on false=true:=by
   have hupl:∀ j,listed.getD j false=true->(listed.setIfInBounds i true).getD j false=true:=by
    intro j hj
    by_cases hij:i=j
    ·subst hij;exact hset
    ·rw [getD_set_ne _ hij];exact hj
   intro k o' ho' hk e he hb
   by_cases hik:i=k
   ·subst hik;rw [ho] at ho';cases ho';exact hupl _ (hdep e he hb)
   ·rw [getD_set_ne _ hik] at hk;exact hupl _ (hc k o' ho' hk e he hb)
  have ho':l[i]? =some o:=by simpa using ho
  have hu0:listed.getD i false=false:=by
   rw [Array.getD_eq_getD_getElem?] at hu ⊢
   cases hx:listed[i]? with
   | none=>rfl
   | some b=>rw [hx] at hu;simpa using hu
  have hs1:=(hshow l.toArray).at _ _ i o ho' _ g w' hJ (by rw [Nat.zero_add];exact hu0) (Waits.of _ fun e he hb=>hdep e (by simpa using he) hb);rw [Nat.zero_add] at hs1
  refine wpOp_mono ?_ (wpOp_of_list ho hs1)
  rintro a2 w2 ⟨v,rfl,hJ2⟩
  refine ⟨by simp [hs],hclo,upd g i v,?_,?_⟩
  ·have:=fillFrom_upd (g:=g) (v:=v) l 0 i a hap hlt;rw [Nat.zero_add] at this;rw [<- this];simp only [ho',Option.bind_some]
  ·have e:(fun j=>(listed.setIfInBounds i true).getD j false)=mark (fun j=>listed.getD j false) i:=by
    funext j
    unfold mark
    by_cases hij:j=i
    ·subst hij;rw [if_pos rfl];exact hset
    ·rw [if_neg hij,getD_set_ne _ (Ne.symm hij)]
   rw [e];exact hJ2
end
theorem tWin_in {w:World} {F:Nat->Prop} {a:Option Addr} {l:List Int} (ca:Nat) (kh kw s p:Int) (h:Ints w F a l) (hno:argBad l kh kw s p=false) (hno2:shapeBad l kh kw p=false):
  Calls Tryz.prog 131 #[.slice a l.length ca,.int .i64 kh,.int .i64 kw,.int .i64 s,.int .i64 p] w (WinPost w l kh kw s p):=by
 have hV:=tValid ca h;have hlen:=h.len;obtain ⟨hv,s1,s2,s3,_⟩:=argBad_no hno;obtain ⟨q,hq,hwin,rfl',rfl,rfl,rfl,rfl⟩:=winOf_ok hno hno2;have hl:l.length=3:=by rw [rfl'];rfl
 have hq1:=hq.c1;have hq2:=hq.h1;have hq3:=hq.w1;have hq4:=hq.kh1;have hq5:=hq.kh2;have hq6:=hq.kw1;have hq7:=hq.kw2;have hq8:=hq.s1;have hq9:=hq.s2;have hqa:=hq.ph;have hqb:=hq.pw;have hqc:=hq.fh;have hqd:=hq.fw;have hqe:=hq.c2;have hqf:=hq.h2;have hqg:=hq.w2;have hqh:=hq.r2;have hqi:=hq.q2;obtain ⟨bb,off,c,x,y,rfl,hc,hx,hy,e0,e1,e2⟩:=h.three hl;obtain rfl:c=q.C:=by rw [rfl'] at e0;simpa using e0.symm
 obtain rfl:x=q.H:=by rw [rfl'] at e1;simpa using e1.symm
 obtain rfl:y=q.W:=by rw [rfl'] at e2;simpa using e2.symm
 rw [hv] at hV;have HV:=hid hV;have h3:3<=l.length:=by omega
 have hne:((l.length:Int) != 3)=false:=by simp;omega
 have HLL:=hid rfl';clear hV hv hl e0 e1 e2 rfl' h
 go_enter Tryz.func131,Tryz.ntmps131
 go_wp2_with (first | (go_at_call 53;refine HV.out.mono ?_;rintro e w' ⟨rfl,rfl⟩) | (go_at_call 157;refine (tSide _ _).mono ?_;rintro e w' ⟨rfl,rfl⟩))
 go_quiet (fail)
 go_wp2
 go_quiet (fail)
 rw [hq.rInt,hq.qInt,IntWalk.wrap64_in (q.R:Int) ⟨by omega,by omega⟩,IntWalk.wrap64_in (q.Q:Int) ⟨by omega,by omega⟩];obtain ⟨⟨p1,p2⟩,⟨p3,p4⟩,⟨p5,p6⟩,⟨p7,p8⟩⟩:=hq.prods
 by_cases hmany:262144 < (q.R:Int) * q.Q * q.C * q.kh * q.kw
 ·go_wp2
  refine bodyPost_ret (results_tmp4 rfl _ _ _) rfl ?_
  refine winPost_err (windowsL_many hno hno2 ?_) (below_drewN (Below.refl _ _) _)
  rw [hwin];have:((q.total:Nat):Int)=(q.R:Int) * q.Q * q.C * q.kh * q.kw:=by simp [Win.total]
  omega
 have HS:Hid (windowsL l q.kh q.kw q.s q.p=(q.all,(q.R:Int),(q.Q:Int),0)):=by
  unfold Hid;rw [windowsL_ok hno hno2 (by
   rw [hwin];have:((q.total:Nat):Int)=(q.R:Int) * q.Q * q.C * q.kh * q.kw:=by simp [Win.total]
   omega),hwin]
 have HW:=hid hwin;clear hno hno2 hwin HLL HV;go_wp2;clear p1 p2 p3 p4 p5 p6 p7 p8 hmany hc hx hy hne
 go_loopw [19,122] (fun v j wr=>∃ (r:Nat) (L:List (List Int)) (xs:List Value),r<=q.R/\j=.int .i64 r/\Hid (L=(List.range r).flatMap q.rowOf)/\Hid (OwnSS wr w.heap.size 22 v xs L)/\L.length<=r * 16600/\Below w.heap.size w wr)
  (fun _ j _=>q.R - (intOf j).toNat)
 case atStart=>exact ⟨0,[],[],by omega,rfl,rfl,OwnSS.nil _ _ _,by simp,below_drewN (Below.refl _ _) _⟩
 case round=>
  obtain ⟨r,L,xs,hr,rfl,HL,HO,hLl,hB⟩:=hrel;obtain ⟨wo,rfl⟩:∃ wo:World,wo=wr:=⟨_,rfl⟩
  by_cases hlt:r < q.R
  ·go_wp2
   go_loopw [19,126] (fun v j wr=>∃ (c:Nat) (M:List (List Int)) (xs:List Value),c<=q.Q/\j=.int .i64 c/\Hid (M=L++(List.range c).map (q.one r))/\Hid (OwnSS wr w.heap.size 22 v xs M)/\M.length<=r * 16600+c/\Below w.heap.size w wr)
    (fun _ j _=>q.Q - (intOf j).toNat)
   case atStart=>exact ⟨0,L,xs,by omega,rfl,by simp [Hid],HO,by omega,hB⟩
   case round=>
    clear hB HO;obtain ⟨c,M,xs,hc,rfl,HM,HO,hMl,hB⟩:=hrel;obtain ⟨wc,rfl⟩:∃ wc:World,wc=wr:=⟨_,rfl⟩
    by_cases hltc:c < q.Q
    ·obtain ⟨⟨g1,g2⟩,g3,g4⟩:=hq.pos hlt hltc;go_wp2
     go_loopw [22,130] (fun v j wr=>∃ (ch:Nat) (P:List Int),ch<=q.C/\j=.int .i64 ch/\Hid (P=(List.range ch).flatMap (q.chan r c))/\P.length<=ch * 4096/\Hid (wr.ownsRow wc.heap.size 3 1 v P.length (P.map (Value.int .i64)))/\Below wc.heap.size wc wr)
      (fun _ j _=>q.C - (intOf j).toNat)
     case atStart=>exact ⟨0,[],by omega,rfl,rfl,by simp,World.ownsRow_nil _ _ _ _,Below.refl _ _⟩
     case round=>
      obtain ⟨ch,P,hch,rfl,HP,hPl,HV,hBc⟩:=hrel
      by_cases hltch:ch < q.C
      ·go_wp2
       go_loopw [22,134] (fun v j wr=>∃ (i:Nat) (S:List Int),i<=q.kh/\j=.int .i64 i/\Hid (S=P++(List.range i).flatMap (q.line r c ch))/\S.length<=ch * 4096+i * 64/\Hid (wr.ownsRow wc.heap.size 3 1 v S.length (S.map (Value.int .i64)))/\Below wc.heap.size wc wr)
        (fun _ j _=>q.kh - (intOf j).toNat)
       case atStart=>exact ⟨0,P,by omega,rfl,by simp [Hid],by omega,HV,hBc⟩
       case round=>
        clear hBc HV;obtain ⟨i,S,hi,rfl,HSl,hSl,HV,hBc⟩:=hrel
        by_cases hlti:i < q.kh
        ·go_wp2
         go_loopw [22,138] (fun v j wr=>∃ (k:Nat) (T:List Int),k<=q.kw/\j=.int .i64 k/\Hid (T=S++(List.range k).map (q.at r c ch i))/\T.length<=ch * 4096+i * 64+k/\Hid (wr.ownsRow wc.heap.size 3 1 v T.length (T.map (Value.int .i64)))/\Below wc.heap.size wc wr)
          (fun _ j _=>q.kw - (intOf j).toNat)
         case atStart=>exact ⟨0,S,by omega,rfl,by simp [Hid],by omega,HV,hBc⟩
         case round=>
          clear hBc HV;obtain ⟨k,T,hk,rfl,HT,hTl,HV,hBc⟩:=hrel
          by_cases hltk:k < q.kw
          ·clear HS HW HL HM HP HSl HO hB hLl hMl hPl hSl
           by_cases hin:0<=(r:Int) * q.s+i - q.p/\(r:Int) * q.s+i - q.p < q.H/\0<=(c:Int) * q.s+k - q.p/\(c:Int) * q.s+k - q.p < q.W
           ·have HA:q.at r c ch i k=((ch:Int) * q.H+((r:Int) * q.s+i - q.p)) * q.W+((c:Int) * q.s+k - q.p):=by unfold Win.at cellW;rw [if_pos hin]
            have HA:=hid HA;obtain ⟨i1,i2,i3,i4⟩:=hin;obtain ⟨⟨j1,j2⟩,⟨j3,j4⟩,j5,j6⟩:=hq.idx hltch i1 i2 i3 i4;clear j6
            go_wp2_with (at_builtin;refine wpList_app1 rfl (.tmp 180) (.tmp 182) 22 rfl wc.heap.size 3 (.int .i64 0) 8 Tryz.underlying22 Tryz.info3 rfl _ T.length _ rfl HV.out _ rfl rfl (by omega) (by unfold maxLen;omega) hBc.size ?_;intro v' w' hown hg hn)
            go_roundw
            case rel=>
             refine ⟨k+1,T++[q.at r c ch i k],by omega,by go_num,?_,by simp;omega,?_,hBc.grown hg hBc.size (fun k hk=>(HV.out.lt k hk).1)⟩
             ·unfold Hid;rw [map_snoc,HT.out]
             ·unfold Hid;rw [HA.out];simpa using hown
            case measure=>simp [intOf];omega
           ·have HA:q.at r c ch i k= -1:=by unfold Win.at cellW;rw [if_neg hin]
            have HA:=hid HA
            go_wp2_with (at_builtin;refine wpList_app1 rfl (.tmp 180) (.tmp 182) 22 rfl wc.heap.size 3 (.int .i64 0) 8 Tryz.underlying22 Tryz.info3 rfl _ T.length _ rfl HV.out _ rfl rfl (by omega) (by unfold maxLen;omega) hBc.size ?_;intro v' w' hown hg hn)
            all_goals
             go_roundw
             case rel=>
              refine ⟨k+1,T++[q.at r c ch i k],by omega,by go_num,?_,by simp;omega,?_,hBc.grown hg hBc.size (fun k hk=>(HV.out.lt k hk).1)⟩
              ·unfold Hid;rw [map_snoc,HT.out]
              ·unfold Hid;rw [HA.out];simpa using hown
             case measure=>simp [intOf];omega
          ·obtain rfl:k=q.kw:=by omega
           go_wp2;go_roundw
           case rel=>exact ⟨i+1,T,by omega,by go_num,by unfold Hid;rw [flat_snoc, <- HSl.out];exact HT.out,by omega,HV,hBc⟩
           case measure=>simp [intOf];omega
        ·obtain rfl:i=q.kh:=by omega
         go_wp2;go_roundw
         case rel=>exact ⟨ch+1,S,by omega,by go_num,by
          unfold Hid;have:=flat_snoc [] (q.chan r c) ch;simp only [List.nil_append] at this;rw [this, <- HP.out];exact HSl.out,by omega,HV,hBc⟩
         case measure=>simp [intOf];omega
      ·obtain rfl:ch=q.C:=by omega
       have hown:=HV.out;obtain ⟨aw,cw,hvw,hIw⟩:=Ints.own (l:=P) hown (by rw [HP.out];intro x hx;have:=hq.one_bd r c x hx;omega) (by omega);have hcapw:=Ints.own_cap hown hvw;have HO':=HO.out.frame hBc;have hob:=hown.lt;subst hvw;clear hown HV
       go_wp2_with (at_builtin;refine wpList_app1 rfl (.tmp 187) (.tmp 189) 65 rfl w.heap.size 22 (.slice none 0 0) 24 Tryz.underlying65 Tryz.info22 rfl _ M.length xs rfl HO'.own _ rfl rfl (by omega) (by unfold maxLen;omega) (by have:=hB.size;have:=hBc.size;omega) ?_;intro v' w' hown hg hn)
       go_roundw
       case rel=>
        refine ⟨c+1,M++[q.one r c],xs++[.slice aw P.length cw],by omega,by go_num,?_,?_,by simp;omega,(hB.trans (hBc.mono hB.size)).grown hg (by have:=hB.size;have:=hBc.size;omega) (fun k hk=>(HO'.own.lt k hk).1)⟩
        ·unfold Hid;rw [map_snoc,HM.out]
        ·unfold Hid;have HPe:q.one r c=P:=HP.out.symm;rw [HPe];exact HO'.app hIw hcapw (fun b hb=>⟨by have:=(hob b hb).1;have:=hB.size;omega,fun e=>by have:=(HO.out.own.lt b e).2;have:=(hob b hb).1;omega⟩) hown hg hn
       case measure=>simp [intOf];omega
    ·obtain rfl:c=q.Q:=by omega
     go_wp2;go_roundw
     case rel=>exact ⟨r+1,M,xs,by omega,by go_num,by
      unfold Hid;have:=flat_snoc [] q.rowOf r;simp only [List.nil_append] at this;rw [this, <- HL.out];exact HM.out,HO,by omega,hB⟩
     case measure=>simp [intOf];omega
  ·obtain rfl:r=q.R:=by omega
   go_wp2
   refine bodyPost_ret (results_tmp4 rfl _ _ _) rfl ?_
   obtain ⟨a',c',hv',hI⟩:=HO.out.intss (by omega);have hLq:L=q.all:=HL.out
   refine ⟨a',c',?_,?_,hB⟩
   ·rw [HS.out, <- hLq, <- hv'];rfl
   ·rw [HS.out, <- hLq];exact hI
theorem tWin {w:World} {F:Nat->Prop} {a:Option Addr} {l:List Int} (ca:Nat) (kh kw s p:Int) (h:Ints w F a l):
  Calls Tryz.prog 131 #[.slice a l.length ca,.int .i64 kh,.int .i64 kw,.int .i64 s,.int .i64 p] w (WinPost w l kh kw s p):=by
 cases h1:argBad l kh kw s p
 ·cases h2:shapeBad l kh kw p
  ·exact tWin_in ca kh kw s p h h1 h2
  ·exact tWin_shape ca kh kw s p h h1 h2
 ·exact tWin_arg ca kh kw s p h h1
end Go.Proofs.YtfgmmghmmfmdgaaGreat
