/-
  Contracts of the functions that the statement reaches: ModQ, ModS, ModT, ModU, ModV, EvO, PvG, PvH, LwC, LwG, LinJ, LjF, LjG, LjH, LjI, LjK.
-/
import Derived.Test.YtfgmmghmmfmdgaaGreatR37
import Derived.Test.YtfgmmghmmfmdgaaGreatR38
import Derived.Test.YtfgmmghmmfmdgaaGreatR39
import Derived.Test.YtfgmmghmmfmdgaaGreatR40
set_option linter.all false
set_option maxRecDepth 100000
set_option maxHeartbeats 3200000
namespace Go.Proofs.YtfgmmghmmfmdgaaGreat
open Go.RowKit
open Go.Lib (hid)
theorem validR_ratL (q:Rat):validR (ratL q)=true:=by
 unfold validR;rw [canonL_ratL,ratOf_ratL];exact decide_eq_true rfl
theorem small_num {q:Rat} (h:smallR (ratL q)=true):q.den<=4294967296/\q.num.natAbs<=18446744073709551616:=by
 unfold smallR at h;rw [Bool.and_eq_true,decide_eq_true_eq,decide_eq_true_eq] at h;obtain ⟨h1,h2⟩:=h
 constructor
 ·by_cases hd:q.den=1
  ·omega
  ·have e:(ratL q).den=limbs q.den:=by simp [ratL,hd]
   rw [e] at h2;have:=limbs_len_lt q.den;exact Nat.le_of_lt (Nat.lt_of_lt_of_le this (Nat.le_trans (Nat.pow_le_pow_right (by omega) h2) (by omega)))
 ·have e:(ratL q).num=limbs q.num.natAbs:=rfl;rw [e] at h1;have:=limbs_len_lt q.num.natAbs;exact Nat.le_of_lt (Nat.lt_of_lt_of_le this (Nat.le_trans (Nat.pow_le_pow_right (by omega) h1) (by decide)))
theorem little_back {L:List RatL} (h:littleL L=true):L=(L.map ratOf).map ratL/\∀ q ∈ L.map ratOf,q.den<=4294967296/\q.num.natAbs<=18446744073709551616:=by
 unfold littleL at h;rw [Bool.and_eq_true] at h;have hb:=validR_back h.2
 refine ⟨hb,fun q hq=>small_num ?_⟩
 exact List.all_eq_true.1 h.1 _ (by rw [hb];exact List.mem_map_of_mem hq)
theorem small_of {l:LayL} (h:okLay l=true):SmallL l:=by
 unfold okLay at h;simp only [Bool.and_eq_true,decide_eq_true_eq] at h;obtain ⟨h1,h2,h3,h4⟩:=h
 refine ⟨fun q hq=>?_,by rw [List.length_append];simp [wq,bq];omega⟩
 rcases List.mem_append.1 hq with hq | hq
 ·exact (little_back h3).2 q hq
 ·exact (little_back h4).2 q hq
theorem pow_room {a b c:Nat} (M:Nat) (hM:2<=M) (h:a+b+2<=c) {x y:Nat} (hx:x<=M^a) (hy:y<=M^b):x * y+y < M^c:=by
 have h1:x * y<=M^(a+b):=by rw [Nat.pow_add];exact Nat.mul_le_mul hx hy
 have h2:M^b<=M^(a+b):=Nat.pow_le_pow_right (by omega) (by omega);have h4:M^(a+b+2)<=M^c:=Nat.pow_le_pow_right (by omega) h;have h5:0 < M^(a+b):=Nat.pow_pos (by omega);have h6:M^(a+b+2)=M^(a+b) * (M * M):=by rw [Nat.pow_add,Nat.pow_two]
 have h7:4<=M * M:=Nat.mul_le_mul hM hM;have h8:M^(a+b) * 4<=M^(a+b) * (M * M):=Nat.mul_le_mul_left _ h7;omega
theorem pow_le3 {M C:Nat} (hC:C<=M^3) (k:Nat):C^k<=M^(3 * k):=by rw [Nat.pow_mul];exact Nat.pow_le_pow_left hC k
theorem room_gen (M C U p q u:Nat) (hM:2<=M) (hC:C<=M^3) (hU:U<=M^u) {W n c:Nat} (hW:W<=M^n) (hc:3+(3 * q+u)+(n+p * q+p)+2<=c):∀ D' B',D'<=W * (M^p)^q->B'<=C^q * U->(C * B') * (D' * M^p)+D' * M^p < M^c:=by
 intro D B hD hB;have h1:B<=M^(3 * q+u):=Nat.le_trans hB (by rw [Nat.pow_add];exact Nat.mul_le_mul (pow_le3 hC q) hU);have h2:C * B<=M^(3+(3 * q+u)):=by rw [Nat.pow_add M 3];exact Nat.mul_le_mul hC h1
 have h3:D<=M^(n+p * q):=Nat.le_trans hD (by rw [Nat.pow_add,Nat.pow_mul];exact Nat.mul_le_mul_right _ hW);have h4:D * M^p<=M^(n+p * q+p):=by rw [Nat.pow_add M (n+p * q)];exact Nat.mul_le_mul_right _ h3
 exact pow_room M hM hc h2 h4
theorem room_ofU {W U:Nat} {n u:Nat} (hW:W<=4294967296^n) (hU:U<=4294967296^u) (hn:n+u<=400):RoomK 12 W U:=by
 intro D B hD hB;unfold Room;obtain ⟨p,hp,e⟩:=WQ_pow;rw [e] at hD ⊢;have hc:3+(3 * 12+u)+(n+p * 12+p)+2<=524285:=by omega
 generalize (524285:Nat)=c at hc ⊢;exact room_gen 4294967296 9671406556917033397649408 U p 12 u (by omega) (by decide) hU hW hc D B hD hB
theorem room_of {W:Nat} {n:Nat} (hW:W<=4294967296^n) (hn:n<=390):RoomK 12 W 18446744073709551616:=room_ofU (u:=2) hW (by decide) (by omega)
structure Paid (m:ModL) (L:List RatL):Prop where
 back:L=(L.map ratOf).map ratL
 sm:∀ l ∈ m.layers,SmallL l
 room:∃ D,0 < D/\BdL D 18446744073709551616 (L.map ratOf)/\RoomK 12 D 18446744073709551616
 lens:m.layers.length<=8
 xl:L.length<=30
theorem fair_paid {m:ModL} {L:List RatL} (h:fairE m L=true):Paid m L:=by
 unfold fairE at h;simp only [Bool.and_eq_true,decide_eq_true_eq] at h;obtain ⟨h1,h2,h3,h4,h5,h6⟩:=h;obtain ⟨hb,hs⟩:=little_back h6;obtain ⟨W,w1,w2,w3⟩:=BdL.small _ hs;rw [List.length_map] at w2;exact ⟨hb,fun l hl=>small_of (List.all_eq_true.1 h5 l hl),⟨W,w1,w3,room_of w2 (by omega)⟩,h1,h3⟩
def exD:LayL:=⟨1,0,1,0,0,0,0,[ratL 1,ratL (-1)],[ratL 0]⟩
def exR:LayL:=⟨5,0,0,0,0,0,0,[],[]⟩
def exM:ModL:=⟨[2],[exD,exR]⟩
theorem ratL_one:ratL 1=⟨false,[1],[]⟩:=by
 have:=ratL_int 1;rw [show ((1:Int):Rat)=1 from rfl] at this;rw [this,show (1:Int).natAbs=1 from rfl,limbs_one];rfl
theorem ratL_mone:ratL (-1)=⟨true,[1],[]⟩:=by
 have:=ratL_int (-1);rw [show (((-1:Int)):Rat)= -1 from rfl] at this;rw [this,show (-1:Int).natAbs=1 from rfl,limbs_one];rfl
theorem exD_nums:numsB exD=true:=by unfold numsB exD;simp [validR_ratL]
theorem exR_nums:numsB exR=true:=rfl
theorem exD_ok:layOK exD 0=true:=by unfold layOK;rw [exD_nums];decide
theorem exR_ok:layOK exR 1=true:=by unfold layOK;rw [exR_nums];decide
theorem exD_out:outSL [2] [] exD=([1],0):=by
 unfold outSL;rw [show layOK exD (([]:List (List Int)).length:Int)=true from exD_ok]
 decide+kernel
theorem exR_out:outSL [2] [[1]] exR=([1],0):=by
 unfold outSL;rw [show layOK exR (([[1]]:List (List Int)).length:Int)=true from exR_ok]
 decide+kernel
theorem exM_valid:validM exM=true:=by
 show (validL [2] && (decide (2<=64) && (layOK exD 0 && (layOK exR (0+1) && true))))=true
 rw [exD_ok,show layOK exR (0+1)=true from exR_ok]
 decide
theorem exM_shapes:shapesL exM=([[1],[1]],0,0):=by
 unfold shapesL;rw [if_pos exM_valid];show shapesFrom [2] [] [exD,exR]=_
 unfold shapesFrom;rw [exD_out];show shapesFrom [2] [[1]] [exR]=_
 unfold shapesFrom;rw [exR_out];rfl
theorem exM_fair (p q:Rat) (hp:smallR (ratL p)=true) (hq:smallR (ratL q)=true):fairE exM ([p,q].map ratL)=true:=by
 have s1:smallR (ratL 1)=true:=by rw [ratL_one];rfl
 have s2:smallR (ratL (-1))=true:=by rw [ratL_mone];rfl
 have s0:smallR (ratL 0)=true:=by rw [ratL_zeroE];rfl
 have hl:littleL ([p,q].map ratL)=true:=by simp [littleL,hp,hq,validR_ratL]
 have hw:littleL [ratL 1,ratL (-1)]=true:=by simp [littleL,s1,s2,validR_ratL]
 have hb:littleL [ratL 0]=true:=by simp [littleL,s0,validR_ratL]
 have o1:okLay exD=true:=by
  unfold okLay;rw [show exD.weights=[ratL 1,ratL (-1)] from rfl,show exD.bias=[ratL 0] from rfl,hw,hb];rfl
 have o2:okLay exR=true:=rfl;unfold fairE;rw [hl,show exM.layers=[exD,exR] from rfl,List.all_cons,List.all_cons,o1,o2,show ([p,q].map ratL).length=2 from rfl]
 decide+kernel
theorem exM_range:∀ l ∈ exM.layers,LayRange l:=by
 intro l hl;have:l=exD ∨ l=exR:=by simpa [exM] using hl
 rcases this with rfl | rfl <;> (unfold LayRange I64;simp [exD,exR])
theorem exM_le:∀ l ∈ exM.layers,LayLe l:=by
 intro l hl;have:l=exD ∨ l=exR:=by simpa [exM] using hl
 have r1:RatLe (ratL 1) 1048576:=by rw [ratL_one];exact ⟨by simp,by simp⟩
 have r2:RatLe (ratL (-1)) 1048576:=by rw [ratL_mone];exact ⟨by simp,by simp⟩
 have r0:RatLe (ratL 0) 1048576:=by rw [ratL_zeroE];exact ⟨by simp,by simp⟩
 rcases this with rfl | rfl
 ·refine ⟨fun x hx=>?_,fun x hx=>?_⟩
  ·have:x=ratL 1 ∨ x=ratL (-1):=by simpa [exD] using hx
   rcases this with rfl | rfl <;> assumption
  ·have:x=ratL 0:=by simpa [exD] using hx
   subst this;exact r0
 ·exact ⟨by simp [exR],by simp [exR]⟩
theorem Chain.head {input:List Int} {S T:List (List Int)} {l:LayL} {L:List LayL} (h:Chain input S T (l::L)):∃ s T',T=s::T'/\outSL input S l=(s,0)/\Chain input (S++[s]) T' L:=by
 obtain ⟨hl,hc⟩:=h
 cases T with
 | nil=>simp at hl
 | cons s T'=>
  refine ⟨s,T',rfl,by simpa using hc 0 s l rfl rfl,by simpa using hl,fun j s' l' h1 h2=>?_⟩
  have:=hc (j+1) s' l' (by simpa using h1) (by simpa using h2)
  simpa using this
theorem laysFrom_app (l:LayL):∀ (L:List LayL) (i:Int),laysFrom (L++[l]) i=(laysFrom L i && layOK l (i+L.length))
 | [],i=>by simp [laysFrom]
 | a::L,i=>by
  show (layOK a i && laysFrom (L++[l]) (i+1))=((layOK a i && laysFrom L (i+1)) && _)
  rw [laysFrom_app l L (i+1),Bool.and_assoc,List.length_cons]
  congr 3
  omega
theorem shapesFrom_err {input:List Int} {R:List LayL}:∀ (L:List LayL) (S:List (List Int)),(shapesFrom input S L).2.2 ≠ 0->shapesFrom input S (L++R)=shapesFrom input S L
 | [],S,h=>absurd rfl h
 | a::L,S,h=>by
  rw [shapesFrom_cons] at h;rw [List.cons_append,shapesFrom_cons,shapesFrom_cons]
  by_cases k:(outSL input S a).2=0
  ·rw [if_pos k] at h;rw [if_pos k,if_pos k];exact shapesFrom_err L _ h
  ·rw [if_neg k,if_neg k]
theorem chain_snoc {input:List Int} {T:List (List Int)} {L:List LayL} {l:LayL} {s:List Int} (h:Chain input [] T L) (ho:outSL input T l=(s,0)):Chain input [] (T++[s]) (L++[l]):=by
 obtain ⟨h1,h2⟩:=h
 refine ⟨by rw [List.length_append,List.length_append,h1];rfl,fun j s' l' hs hl=>?_⟩
 by_cases hj:j < T.length
 ·rw [List.getElem?_append_left hj] at hs;rw [List.getElem?_append_left (by omega)] at hl;have:=h2 j s' l' hs hl;rw [List.take_append_of_le_length (by omega)];exact this
 ·have hlt:=(List.getElem?_eq_some_iff.1 hs).1;rw [List.length_append] at hlt;simp at hlt;obtain rfl:j=T.length:=by omega
  have e1:s'=s:=by simpa using hs.symm
  have e2:l'=l:=by rw [h1] at hl;simpa using hl.symm
  subst e1 e2;rw [List.take_left];exact ho
theorem traceFrom_app {input:List Int} {x:List Rat} {R:List LayL}:∀ {L:List LayL} {S T:List (List Int)} {Y:List (List Rat)},Chain input S T L->traceFrom input x S Y (L++R)=traceFrom input x (S++T) (traceFrom input x S Y L) R
 | [],S,T,Y,h=>by
  have:T=[]:=List.eq_nil_of_length_eq_zero h.1;subst this;rw [List.append_nil];rfl
 | a::L,S,T,Y,h=>by
  obtain ⟨s,T',rfl,ho,hc⟩:=h.head;have:=traceFrom_app (R:=R) (x:=x) (Y:=Y++[layQ a (currL input S) (currQ x Y) (fromQ x Y a.frm)]) hc;show traceFrom input x (S++[(outSL input S a).1]) _ (L++R)=traceFrom input x _ (traceFrom input x (S++[(outSL input S a).1]) _ L) R
  rw [ho,this,List.append_assoc];rfl
structure Fits (m:ModL) (x:List Rat) (T:List (List Int)) (Y:List (List Rat)):Prop where
 ch:Chain m.input [] T m.layers
 sh:shapesL m=(T,0,0)
 tr:traceQ m x=Y
theorem fits_of {m:ModL} (x:List Rat) (h:(shapesL m).2.2=0):∃ T,Fits m x T (traceQ m x):=by
 rcases shapesL_cases m with ⟨_,k⟩ | ⟨_,⟨T,hc,hT⟩ | ⟨k,_⟩⟩
 ·rw [k] at h;simp at h
 ·exact ⟨T,hc,hT,rfl⟩
 ·omega
theorem Fits.app {m:ModL} {x:List Rat} {T:List (List Int)} {Y:List (List Rat)} {l:LayL} {s:List Int} (h:Fits m x T Y) (hl:m.layers.length+1<=64) (ho:outSL m.input T l=(s,0)):
  Fits ⟨m.input,m.layers++[l]⟩ x (T++[s]) (Y++[layQ l (currL m.input T) (currQ x Y) (fromQ x Y l.frm)]):=by
 refine ⟨chain_snoc h.ch ho,?_,?_⟩
 ·have hs:=h.sh
  rcases shapesL_app l (by rw [hs]) hl with ⟨_,k⟩ | ⟨k,_⟩ | ⟨k,_⟩
  ·rw [k,hs];simp only;rw [ho]
  ·rw [hs] at k;simp only at k;rw [ho] at k;simp at k
  ·rw [hs] at k;simp only at k;rw [ho] at k;simp at k
 ·have ht:=h.tr;unfold traceQ at ht ⊢;show traceFrom m.input x [] [] (m.layers++[l])=_
  rw [traceFrom_app h.ch,ht,List.nil_append];rfl
theorem err_app {m:ModL} {l:LayL} (hl:m.layers.length+1<=64) (hok:∀ i:Int,layOK l i=true) (h:(shapesL m).2.2 ≠ 0):(shapesL ⟨m.input,m.layers++[l]⟩).2.2=(shapesL m).2.2:=by
 have hv:validM ⟨m.input,m.layers++[l]⟩=validM m:=by
  unfold validM;rw [laysFrom_app,hok,Bool.and_true];rw [show decide ((m.layers++[l]).length<=64)=decide (m.layers.length<=64) by rw [decide_eq_true (by rw [List.length_append];simpa using hl),decide_eq_true (by omega)]]
 unfold shapesL at h ⊢;rw [hv]
 cases hm:validM m with
 | false=>rfl
 | true=>
  rw [hm] at h;simp only [if_true] at h ⊢;rw [shapesFrom_err _ _ h]
theorem relu_ok (i:Int):layOK exR i=true:=rfl
theorem Fits.valid {m:ModL} {x:List Rat} {T:List (List Int)} {Y:List (List Rat)} (h:Fits m x T Y):validL m.input=true/\T.all validL=true/\m.layers.length<=64:=by
 have hs:=h.sh
 rcases shapesL_cases m with ⟨_,k⟩ | ⟨hv,_⟩
 ·rw [k] at hs;simp at hs
 ·unfold validM at hv;simp only [Bool.and_eq_true,decide_eq_true_eq] at hv;exact ⟨hv.1,h.ch.valid,hv.2.1⟩
theorem curr_ok {input:List Int} {T:List (List Int)} (h1:validL input=true) (h2:T.all validL=true):validL (currL input T)=true:=by
 unfold currL
 cases hg:T.getLast? with
 | none=>exact h1
 | some z=>exact List.all_eq_true.1 h2 z (List.mem_of_getLast? hg)
theorem relu_fits {m:ModL} {x:List Rat} {T:List (List Int)} {Y:List (List Rat)} (h:Fits m x T Y) (hl:m.layers.length+1<=64):Fits ⟨m.input,m.layers++[exR]⟩ x (T++[currL m.input T]) (Y++[reluQ (currQ x Y)]):=by
 obtain ⟨v1,v2,_⟩:=h.valid;have ho:outSL m.input T exR=(currL m.input T,0):=by
  rw [outSL_fit v1 (by rw [h.ch.1];omega) (relu_ok _) v2];have hr:rawL m.input T exR=(currL m.input T,true):=by
   unfold rawL;rw [if_neg (by decide),if_neg (by decide),if_neg (by decide),if_neg (by decide),if_neg (by decide)]
  rw [hr];simp only [Bool.true_and];rw [if_pos (curr_ok v1 v2)]
 have:=h.app hl ho;rw [show layQ exR (currL m.input T) (currQ x Y) (fromQ x Y exR.frm)=reluQ (currQ x Y) by
  unfold layQ;rw [if_neg (show ¬ exR.kind=1 by decide),if_neg (show ¬ exR.kind=2 by decide),if_neg (show ¬ exR.kind=3 by decide),if_neg (show ¬ exR.kind=4 by decide),if_pos (show exR.kind=5 from rfl)]] at this
 exact this
theorem currL_snoc (input:List Int) (T:List (List Int)) (s:List Int):currL input (T++[s])=s:=by simp [currL]
theorem foldU_unit (nI:Nat):∀ (X U:List AffQ),foldU (unitF nI) X U=(U++X,(List.range X.length).map fun i=>varA (nI+U.length+i))
 | [],U=>by
  show (U,[])=_
  rw [List.append_nil];rfl
 | f::r,U=>by
  show ((foldU (unitF nI) r (U++[f])).1,varA (nI+U.length)::(foldU (unitF nI) r (U++[f])).2)=_
  rw [foldU_unit nI r (U++[f]),List.append_assoc,List.length_cons,List.range_succ_eq_map,List.map_cons,List.map_map];simp only [List.length_append,List.length_cons,List.length_nil,List.cons_append,List.nil_append,Nat.add_zero]
  congr 2
  refine List.map_congr_left fun i _=>?_
  show varA _=varA _
  congr 1
  omega
theorem cntL_app:∀ {L:List LayL} {T:List (List Int)} (l:LayL) (s:List Int),T.length=L.length->cntL (L++[l]) (T++[s])=cntL L T+cnt1 l (sizeL s)
 | [],[],l,s,_=>by
  show cnt1 l (sizeL s)+0=0+_
  omega
 | a::L,t::T,l,s,h=>by
  show cnt1 a (sizeL t)+cntL (L++[l]) (T++[s])=(cnt1 a (sizeL t)+cntL L T)+_
  rw [cntL_app l s (by simpa using h)];omega
 | [],_::_,_,_,h=>by simp at h
 | _::_,[],_,_,h=>by simp at h
theorem lower_relu {m:ModL} (hl:m.layers.length+1<=64):((lowerL m).2 ≠ 0->(lowerL ⟨m.input,m.layers++[exR]⟩).2=(lowerL m).2)/\
  ((lowerL m).2=0->(lowerL ⟨m.input,m.layers++[exR]⟩).2=8 ∨ ∃ G G':GraphQ,lowerL m=(G,0)/\lowerL ⟨m.input,m.layers++[exR]⟩=(G',0)/\G'.inputs=G.inputs/\G'.units=G.units++G.outs/\G'.outs=(List.range G.outs.length).map fun i=>varA (G.inputs+G.units.length+i)):=by
 by_cases h0:(shapesL m).2.2=0
 ·obtain ⟨T,hF⟩:=fits_of (m:=m) [] h0;have hF2:=relu_fits hF hl;have s1:=hF.sh;have s2:=hF2.sh;have hsz:0<=sizeL (currL m.input T):=by
   obtain ⟨v1,v2,_⟩:=hF.valid;obtain ⟨n,e,_⟩:=sizeL_nn (curr_ok v1 v2);omega
  have hc:cntL (m.layers++[exR]) (T++[currL m.input T])=cntL m.layers T+sizeL (currL m.input T):=by
   rw [cntL_app exR _ hF.ch.1];rfl
  have e1:lowerL m=if 256 < sizeL m.input ∨ 1024 < cntL m.layers T ∨ 256 < sizeL (currL m.input T) then (emptyG,8)
    else (⟨(sizeL m.input).toNat,(lowFrom (sizeL m.input).toNat m.input (varsF (sizeL m.input).toNat) [] [] [] m.layers).1,currF (varsF (sizeL m.input).toNat) (lowFrom (sizeL m.input).toNat m.input (varsF (sizeL m.input).toNat) [] [] [] m.layers).2⟩,0):=by
   unfold lowerL;rw [s1,if_pos rfl]
  have e2:lowerL ⟨m.input,m.layers++[exR]⟩=if 256 < sizeL m.input ∨ 1024 < cntL m.layers T+sizeL (currL m.input T) ∨ 256 < sizeL (currL m.input T) then (emptyG,8)
    else (⟨(sizeL m.input).toNat,(lowFrom (sizeL m.input).toNat m.input (varsF (sizeL m.input).toNat) [] [] [] (m.layers++[exR])).1,currF (varsF (sizeL m.input).toNat) (lowFrom (sizeL m.input).toNat m.input (varsF (sizeL m.input).toNat) [] [] [] (m.layers++[exR])).2⟩,0):=by
   unfold lowerL;rw [s2,if_pos rfl];simp only;rw [hc,currL_snoc]
  rw [e1,e2]
  by_cases g:256 < sizeL m.input ∨ 1024 < cntL m.layers T ∨ 256 < sizeL (currL m.input T)
  ·rw [if_pos g,if_pos (by omega)];exact ⟨fun _=>rfl,fun h=>absurd h (by decide)⟩
  ·rw [if_neg g]
   refine ⟨fun h=>absurd rfl h,fun _=>?_⟩
   by_cases g2:256 < sizeL m.input ∨ 1024 < cntL m.layers T+sizeL (currL m.input T) ∨ 256 < sizeL (currL m.input T)
   ·rw [if_pos g2];exact .inl rfl
   ·rw [if_neg g2]
    refine .inr ⟨_,_,rfl,rfl,rfl,?_⟩
    rw [lowFrom_app hF.ch];generalize hp:lowFrom (sizeL m.input).toNat m.input (varsF (sizeL m.input).toNat) [] [] [] m.layers=p;obtain ⟨U,Y⟩:=p;have hr:∀ s fr,lowLay (sizeL m.input).toNat U exR s (currF (varsF (sizeL m.input).toNat) Y) fr=(U++currF (varsF (sizeL m.input).toNat) Y,(List.range (currF (varsF (sizeL m.input).toNat) Y).length).map fun i=>varA ((sizeL m.input).toNat+U.length+i)):=fun s fr=>foldU_unit _ _ _
    show (lowLay _ U exR _ _ _).1=_/\currF _ (Y++[(lowLay _ U exR _ _ _).2])=_
    rw [hr]
    refine ⟨rfl,?_⟩
    simp [currF]
 ·have he:=err_app hl relu_ok h0;have e1:lowerL m=(emptyG,(shapesL m).2.2):=by unfold lowerL;rw [if_neg h0]
  have e2:lowerL ⟨m.input,m.layers++[exR]⟩=(emptyG,(shapesL m).2.2):=by unfold lowerL;rw [he,if_neg h0]
  rw [e1,e2];exact ⟨fun _=>rfl,fun h=>absurd h h0⟩
structure CntOK (L:List LayL) (T:List (List Int)):Prop where
 len:T.length=L.length
 few:L.length<=64
 ok:∀ (j:Nat) (l:LayL) (s:List Int),L[j]? =some l->T[j]? =some s->0<=sizeL s/\sizeL s<=16384/\(l.kind=3->1<=l.kh * l.kw/\l.kh * l.kw<=262144)
theorem CntOK.step {L:List LayL} {T:List (List Int)} (h:CntOK L T) {j:Nat} {l:LayL} {s:List Int} (hl:L[j]? =some l) (hs:T[j]? =some s):cntL (L.take (j+1)) (T.take (j+1))=cntL (L.take j) (T.take j)+cnt1 l (sizeL s):=by
 rw [List.take_add_one,List.take_add_one,hl,hs];exact cntL_app l s (by rw [List.length_take,List.length_take,h.len])
theorem CntOK.cnt1 {L:List LayL} {T:List (List Int)} (h:CntOK L T) {j:Nat} {l:LayL} {s:List Int} (hl:L[j]? =some l) (hs:T[j]? =some s):0<=cnt1 l (sizeL s)/\cnt1 l (sizeL s)<=4294967296:=by
 obtain ⟨h1,h2,h3⟩:=h.ok j l s hl hs;unfold Go.Proofs.YtfgmmghmmfmdgaaGreat.cnt1
 split
 ·omega
 ·split
  ·rename_i hk
   obtain ⟨k1,k2⟩:=h3 hk
   refine ⟨Int.mul_nonneg (by omega) h1,?_⟩
   have:=Int.mul_le_mul (show l.kh * l.kw - 1<=262144 by omega) h2 h1 (by omega);omega
  ·omega
theorem CntOK.bd {L:List LayL} {T:List (List Int)} (h:CntOK L T):∀ j,j<=L.length->0<=cntL (L.take j) (T.take j)/\cntL (L.take j) (T.take j)<=(j:Int) * 4294967296
 | 0,_=>by simp [cntL]
 | j+1,hj=>by
  have hl:L[j]? =some L[j]:=List.getElem?_eq_getElem (by omega);have hs:T[j]? =some (T[j]'(by rw [h.len];omega)):=List.getElem?_eq_getElem _;obtain ⟨a1,a2⟩:=h.bd j (by omega);obtain ⟨b1,b2⟩:=h.cnt1 hl hs;rw [h.step hl hs];omega
theorem lCnt {w:World} {a aS:Option Addr} {L:List LayL} {T:List (List Int)} {F:Nat->Prop} (c cS:Nat) (h1:LaysAt w a L) (h2:Intss w F aS T) (hO:CntOK L T):
  Calls Tryz.prog 32 #[.slice a L.length c,.slice aS T.length cS] w (fun e w'=>e=.returned (.int .i64 (cntL L T))/\Below w.heap.size w w'):=by
 obtain ⟨H1,H2,HO,HTl⟩:=hd4 h1 h2 hO hO.len;have hL6:=hO.few;have hTL:T.length<=64:=by rw [hO.len];exact hL6
 clear h1 h2 hO
 go_enter Tryz.func32,Tryz.ntmps32
 go_wp2
 go_loopw [5,10] (fun v i wr=>∃ (j:Nat) (n:Int),j<=L.length/\v=.int .i64 n/\i=.int .i64 (j:Int)/\Hid (n=cntL (L.take j) (T.take j))/\Hid (Below w.heap.size w wr)) (fun _ i _=>L.length - (intOf i).toNat)
 case atStart=>exact ⟨0,0,Nat.zero_le _,rfl,rfl,rfl,Below.refl _ _⟩
 case round=>
  obtain ⟨j,n,hj,rfl,rfl,HN,HB⟩:=hrel;have hnb:=HO.out.bd j hj;rw [<- HN.out] at hnb
  by_cases hlt:j < L.length
  ·obtain ⟨bl,ol,l,ha2,hbl,hl,b1,b2,d1,d2,⟨l0,l1,l2,l3,l4,l5,l6,l7,l8⟩,r1,r2⟩:=H1.out.pick hlt;obtain ⟨bT,oT,t,aT,ct,haT,tc0,hTi,htc,hIt,hbT,_⟩:=H2.out.pickc (k:=j) (by rw [HTl.out];exact hlt);have hc9:=fun o=>HB.out.cell (p:=⟨bl,o,none⟩) hbl
   have l0:=(hc9 _).trans l0;have l1:=(hc9 _).trans l1;have l2:=(hc9 _).trans l2;have l3:=(hc9 _).trans l3;have l4:=(hc9 _).trans l4;have l5:=(hc9 _).trans l5;have l6:=(hc9 _).trans l6;have l7:=(hc9 _).trans l7;have l8:=(hc9 _).trans l8;have hbl2:=Nat.lt_of_lt_of_le hbl HB.out.size;have hstep:=HO.out.step hl hTi;obtain ⟨z0,z1,z3⟩:=HO.out.ok j l t hl hTi;have hcb:=HO.out.cnt1 hl hTi;have hal:=blA wr (layO l b1 d1 b2 d2 44);have HBx9:=hid (Box9.alloc wr (.int .i64 l.kind) (.int .i64 l.frm) (.int .i64 l.out) (.int .i64 l.kh) (.int .i64 l.kw) (.int .i64 l.stride) (.int .i64 l.pad) (.slice b1 l.weights.length d1) (.slice b2 l.bias.length d2) 44);have HBj:=htr HB hal;have tc0:=(HBj.out.cell (p:=⟨bT,oT+j,none⟩) hbT).trans tc0;have hbT2:=Nat.lt_of_lt_of_le hbT HBj.out.size;obtain ⟨HSz,HStep,HN1⟩:=hd3 (fun X (hb:Below w.heap.size w X)=>tSize ct (hIt.below hb)) hstep HN.out;have hjT:j < T.length:=by rw [HTl.out];exact hlt
   subst ha2 haT;clear hl hTi hIt hal hc9 r1 r2 hstep HN htc
   go_upto_region 5 with fail
   generalize wr.alloc (layO l b1 d1 b2 d2 44)=wj at *;clear l0 l1 l2 l3 l4 l5 l6 l7 l8;obtain ⟨l0,l1,l2,l3,l4,l5,l6,l7,l8,l9⟩:=HBx9.out;generalize hzz:sizeL t=z at *;have HSzz:=HSz;have HSz':=hid (HSz.out wj HBj.out);clear HSz hzz;have HRel:Hid (∀ (d:Int) (X:World),cnt1 l z=d->Below w.heap.size w X->n+d=cntL (L.take (j+1)) (T.take (j+1))/\Below w.heap.size w X):=fun d X h hb=>by
    rw [HStep.out,h,HN1.out];exact ⟨rfl,hb⟩
   by_cases hk5:l.kind=5
   ·have hc:cnt1 l z=z:=by unfold cnt1;rw [if_pos hk5]
    rw [hk5] at l0
    go_wp2_with fail
    refine HSz'.out.mono ?_
    rintro e w2 ⟨rfl,rfl⟩;go_wp2;go_roundw
    case rel=>
     obtain ⟨g1,g2⟩:=HRel.out z _ hc HBj.out;exact ⟨j+1,n+z,hlt,rfl,by go_num,g1,g2⟩
    case measure=>simp [intOf];omega
   ·have q5:decide (l.kind=5)=false:=by simp [hk5]
    have q5b:(l.kind==5)=false:=by simp [hk5]
    by_cases hk3:l.kind=3
    ·obtain ⟨p,hp⟩:∃ p,p=l.kh * l.kw:=⟨_,rfl⟩
     obtain ⟨q,hq⟩:∃ q,q=(p - 1) * z:=⟨_,rfl⟩
     have hc:cnt1 l z=q:=by unfold cnt1;rw [if_neg hk5,if_pos hk3,hq,hp]
     obtain ⟨p1,p2⟩:=z3 hk3;rw [<- hp] at p1 p2;rw [hc] at hcb;have m1:IntKind.i64.wrap (l.kh * l.kw)=p:=by rw [<- hp];exact IntWalk.i64_in _ (by omega)
     have m2:IntKind.i64.wrap ((p - 1) * z)=q:=by rw [<- hq];exact IntWalk.i64_in _ (by omega)
     rw [hk3] at l0;have HSq:Hid (∀ k,Calls Tryz.prog 31 #[.slice aT t.length ct] (wj.drewN k) (fun e w'=>e=.returned (.int .i64 z)/\w'=wj.drewN k)):=fun k=>(HSzz.out _ (below_drewN HBj.out k)).mono fun _ _ h=>⟨h.1,h.2.symm⟩
     have HC:=hid hc;clear hp hq hc q5 q5b z3 hk3 hk5
     go_upto_region 9 with fail
     go_quiet ((go_at_call 31;exact Calls.quiet_of_same (HSq.out _)))
     go_wp2;go_roundw
     case rel=>
      obtain ⟨g1,g2⟩:=HRel.out q _ HC.out (below_drewN HBj.out nq);exact ⟨j+1,n+q,hlt,rfl,by go_num,g1,g2⟩
     case measure=>simp [intOf];omega
    ·have q3:decide (l.kind=3)=false:=by simp [hk3]
     have q3b:(l.kind==3)=false:=by simp [hk3]
     have hc:cnt1 l z=0:=by unfold cnt1;rw [if_neg hk5,if_neg hk3]
     go_wp2;go_roundw
     case rel=>
      obtain ⟨g1,g2⟩:=HRel.out 0 _ hc HBj.out;rw [Int.add_zero] at g1;exact ⟨j+1,n,hlt,rfl,by go_num,g1,g2⟩
     case measure=>simp [intOf];omega
  ·obtain rfl:j=L.length:=by omega
   have HF:Hid (n=cntL L T):=by
    have h:=HN.out;rw [List.take_of_length_le (Nat.le_refl _),List.take_of_length_le (by rw [HTl.out];exact Nat.le_refl _)] at h;exact h
   go_wp2
   refine bodyPost_ret (v:=.int .i64 n) (by simp [results,Tryz.results32,go_sem]) rfl ⟨by rw [HF.out],HB.out⟩
theorem CntOK.of {m:ModL} (h:(shapesL m).2.2=0):CntOK m.layers (shapesL m).1:=by
 rcases shapesL_cases m with ⟨_,k⟩ | ⟨hvm,⟨T,hch,hT⟩ | ⟨k,_⟩⟩
 ·rw [k] at h;simp at h
 ·rw [hT];have hl:=hch.1
  refine ⟨hl,?_,fun j l s hj hs=>?_⟩
  ·unfold validM at hvm;simp only [Bool.and_eq_true,decide_eq_true_eq] at hvm;exact hvm.2.1
  ·have ho:=hch.2 j s l hs hj;rw [List.nil_append] at ho;have h0:(outSL m.input (T.take j) l).2=0:=by rw [ho]
   have hv:=outSL_valid h0;rw [ho] at hv;have hz:1<=sizeL s/\sizeL s<=16384:=validL_size hv
   refine ⟨by omega,by omega,fun hk=>?_⟩
   cases (fit_of h0).1 with
   | pool q _ hq ht _ e1 e2 _ _ _ _ _=>
    have hb:=Win.len_bd hq ht;rw [q.one_len] at hb;rw [e1,e2];have h1:q.kh * q.kw<=262144:=Nat.le_trans (Nat.le_mul_of_pos_left _ hq.c1) hb.2.1;have h2:1<=q.kh * q.kw:=Nat.mul_pos hq.kh1 hq.kw1;rw [<- Int.natCast_mul];omega
   | dense R hk1=>omega
   | conv q O hk1=>omega
   | keep hk1=>omega
   | add hk1=>omega
 ·omega
def isZF (v:Value):Bool:=match v with | .int .i64 _=>true | .slice _ _ _=>true | .func _ _ _=>true | .nilFunc=>true | _=>false
theorem AllB.zf32 {w:World} {g o:Nat} {x:Int} (h:AllB isZF w g):w.cell? ⟨g,o,none⟩ ≠ some (.int .u32 x):=fun e=>by have:=h o _ e;cases this
theorem AllB.zfb {w:World} {g o:Nat} {x:Bool} (h:AllB isZF w g):w.cell? ⟨g,o,none⟩ ≠ some (.bool x):=fun e=>by have:=h o _ e;cases this
theorem U32s.setZ {w:World} {g o:Nat} {u:Value} {a:Option Addr} {l:List Nat} (h:U32s w a l) (hg:AllB isZF w g):U32s (w.setCell ⟨g,o,none⟩ u) a l:=by
 by_cases hl:l=[]
 ·rw [hl];exact U32s.nil _ _
 obtain ⟨b,off,rfl,hb,hc⟩:=h.open hl;have hp:=List.length_pos_iff.2 hl;have hf:b ≠ g:=fun e=>by subst e;exact hg.zf32 (hc 0 hp)
 refine ⟨h.lim,h.len,h.row.imp id ?_⟩
 rintro ⟨b',off',e,_,hcc⟩;cases e;exact ⟨b,off,rfl,by simpa using hb,fun j d hj=>(cell_other (by exact hf)).trans (hcc j d hj)⟩
theorem RatC.setZ {w:World} {g o:Nat} {u:Value} {p1 p2 p3:Value} {q:Rat} (h:RatC w p1 p2 p3 q) (hg:AllB isZF w g):RatC (w.setCell ⟨g,o,none⟩ u) p1 p2 p3 q:=by
 obtain ⟨an,ad,cn,cd,e1,e2,e3,l1,l2,u1,u2⟩:=h.ex;exact ⟨an,ad,cn,cd,e1,e2,e3,l1,l2,u1.setZ hg,u2.setZ hg⟩
theorem terms_setZ {w:World} {g o:Nat} {u:Value} {a:Option Addr} {L:List (Nat × Rat)} (h:TermsAt w a L) (hg:AllB isZF w g):TermsAt (w.setCell ⟨g,o,none⟩ u) a L:=by
 refine ⟨h.len,?_⟩
 rcases h.row with rfl | ⟨b,off,rfl,hb,hc⟩
 ·exact .inl rfl
 ·by_cases hl:L=[]
  ·exact .inl hl
  ·have hp:=List.length_pos_iff.2 hl;obtain ⟨p0,p1,p2,p3,h0,h1,_,_,rfl,h4⟩:=hc 0 L[0] (List.getElem?_eq_getElem hp);obtain ⟨_,_,_,_,rfl,_⟩:=h4.ex;have hf:b ≠ g:=fun e=>by subst e;exact hg.zfb h1
   refine .inr ⟨b,off,rfl,by simpa using hb,fun j x hj=>?_⟩
   obtain ⟨p0,p1,p2,p3,h0,h1,h2,h3,h4⟩:=hc j x hj;exact ⟨p0,p1,p2,p3,(cell_other (by exact hf)).trans h0,(cell_other (by exact hf)).trans h1,(cell_other (by exact hf)).trans h2,(cell_other (by exact hf)).trans h3,h4.1,h4.2.setZ hg⟩
theorem FormP.setZ {w:World} {g o:Nat} {u:Value} {p0 p1 p2 p3:Value} {f:AffQ} (h:FormP w p0 p1 p2 p3 f) (hg:AllB isZF w g):FormP (w.setCell ⟨g,o,none⟩ u) p0 p1 p2 p3 f:=by
 obtain ⟨⟨a,c,e,hc,ht⟩,hr⟩:=h;exact ⟨⟨a,c,e,hc,terms_setZ ht hg⟩,hr.setZ hg⟩
theorem forms_setZ {w:World} {g o:Nat} {u:Value} {a:Option Addr} {L:List AffQ} (h:FormsAt w a L) (hg:AllB isZF w g):FormsAt (w.setCell ⟨g,o,none⟩ u) a L:=by
 refine ⟨h.len,?_⟩
 rcases h.row with rfl | ⟨b,off,rfl,hb,hc⟩
 ·exact .inl rfl
 ·by_cases hl:L=[]
  ·exact .inl hl
  ·have hp:=List.length_pos_iff.2 hl;obtain ⟨p0,p1,p2,p3,h0,h1,_,_,_,h4⟩:=hc 0 L[0] (List.getElem?_eq_getElem hp);obtain ⟨_,_,_,_,rfl,_⟩:=h4.ex;have hf:b ≠ g:=fun e=>by subst e;exact hg.zfb h1
   refine .inr ⟨b,off,rfl,by simpa using hb,fun j x hj=>?_⟩
   obtain ⟨p0,p1,p2,p3,h0,h1,h2,h3,h4⟩:=hc j x hj;exact ⟨p0,p1,p2,p3,(cell_other (by exact hf)).trans h0,(cell_other (by exact hf)).trans h1,(cell_other (by exact hf)).trans h2,(cell_other (by exact hf)).trans h3,h4.setZ hg⟩
theorem FRow.setZ {w:World} {gG g o:Nat} {u:Value} {a:Option Addr} {L:List AffQ} (h:FRow gG w a L) (hg:AllB isZF w g) (hne:g ≠ gG):FRow gG (w.setCell ⟨g,o,none⟩ u) a L:=
 ⟨forms_setZ h.at' hg,h.fr.imp id fun hf p e=>(hf p e).set hne⟩
theorem LSt.setZ {gG n b o:Nat} {U:List AffQ} {w:World} {u:Value} (h:LSt w gG n U) (hf:Fre gG w b) (hb:AllB isZF w b):LSt (w.setCell ⟨b,o,none⟩ u) gG n U:=by
 have hne:gG ≠ b:=fun e=>hf.ne e.symm
 obtain ⟨g0,⟨a,c,h1,ho⟩,g2,g3,fz,lt⟩:=h;have k:∀ q,(w.setCell ⟨b,o,none⟩ u).cell? ⟨gG,q,none⟩=w.cell? ⟨gG,q,none⟩:=fun q=>cell_other (by exact hne)
 have hub:∀ g,(Value.slice a U.length c).ownBlock=some g->g ≠ b:=fun g e e2=>hf.nu (by unfold ub;rw [h1];subst e2;exact e)
 refine ⟨(k 0).trans g0,⟨a,c,(k 1).trans h1,⟨?_,?_⟩⟩,(k 2).trans g2,fun q hq=>(k q).trans (g3 q hq),fun q=>by simp only [World.frozen?_setCell];exact fz q,by simpa using lt⟩
 ·obtain ⟨xs,hx,he⟩:=ho.ex
  refine ⟨xs,⟨hx.1,?_⟩,fun j x hj=>?_⟩
  ·rcases hx.2 with k | ⟨g,cap,cur,e1,k1,k2,k3⟩
   ·exact .inl k
   ·exact .inr ⟨g,cap,cur,e1,k1,(Below.heap_setCell _ _ _ _ (hub g (by rw [e1];rfl))).trans k2,k3⟩
  ·obtain ⟨p0,p1,p2,p3,h0,h1',h2,h3,h4⟩:=he j x hj;exact ⟨p0,p1,p2,p3,h0,h1',h2,h3,h4.setZ hb⟩
 ·intro g e q x hx;rw [cell_other (by exact hub g e)] at hx;exact ho.al g e q x hx
structure OwnFF (gG:Nat) (w:World) (base:Nat) (v:Value) (Y:List (List AffQ)):Prop where
 ex:∃ xs,w.ownsRow base 28 1 v Y.length xs/\∀ (j:Nat) (y:List AffQ),Y[j]? =some y->∃ (a:Option Addr) (c:Nat),xs[j]? =some (.slice a y.length c)/\y.length<=c/\FRow gG w a y
 al:AllO isS w v
 fr:∀ b,v.ownBlock=some b->Fre gG w b
theorem OwnFF.lt {gG:Nat} {w:World} {base:Nat} {v:Value} {Y:List (List AffQ)} (h:OwnFF gG w base v Y) {k:Nat} (hk:v.ownBlock=some k):base<=k/\k < w.heap.size:=by
 obtain ⟨xs,ho,_⟩:=h.ex;exact ho.lt k hk
theorem OwnFF.nil (gG:Nat) (w:World) (base:Nat):OwnFF gG w base (.slice none 0 0) []:=⟨⟨[],World.ownsRow_nil _ _ _ _,by simp⟩,(by intro g h;cases h),fun b e=>by cases e⟩
theorem OwnFF.stp {gG n:Nat} {w w':World} {base:Nat} {v:Value} {Y:List (List AffQ)} {U:List AffQ} (h:OwnFF gG w base v Y) (hL:LSt w gG n U) (hs:Stp gG w w'):OwnFF gG w' base v Y:=by
 refine ⟨?_,fun g e o x hx=>?_,fun b e=>(h.fr b e).stp hs⟩
 ·obtain ⟨xs,ho,he⟩:=h.ex
  refine ⟨xs,⟨ho.1,?_⟩,fun j y hj=>?_⟩
  ·rcases ho.2 with k | ⟨g,cap,cur,rfl,k1,k2,k3⟩
   ·exact .inl k
   ·exact .inr ⟨g,cap,cur,rfl,k1,((h.fr g rfl).block hs).trans k2,k3⟩
  ·obtain ⟨a,c,k1,k2,k3⟩:=he j y hj;exact ⟨a,c,k1,k2,k3.stp hL hs⟩
 ·rw [(h.fr g e).cell hs] at hx;exact h.al g e o x hx
theorem OwnFF.setZ {gG g o:Nat} {w:World} {base:Nat} {v:Value} {Y:List (List AffQ)} {u:Value} (h:OwnFF gG w base v Y) (hg:AllB isZF w g) (hne:g ≠ gG) (hb:g < base):OwnFF gG (w.setCell ⟨g,o,none⟩ u) base v Y:=by
 have hbk:∀ b,v.ownBlock=some b->b ≠ g:=fun b e=>by have:=(h.lt e).1;omega
 refine ⟨?_,fun b e q x hx=>?_,fun b e=>(h.fr b e).set hne⟩
 ·obtain ⟨xs,ho,he⟩:=h.ex
  refine ⟨xs,⟨ho.1,?_⟩,fun j y hj=>?_⟩
  ·rcases ho.2 with k | ⟨b,cap,cur,rfl,k1,k2,k3⟩
   ·exact .inl k
   ·exact .inr ⟨b,cap,cur,rfl,k1,(Below.heap_setCell _ _ _ _ (show b ≠ g from hbk b rfl)).trans k2,k3⟩
  ·obtain ⟨a,c,k1,k2,k3⟩:=he j y hj;exact ⟨a,c,k1,k2,k3.setZ hg hne⟩
 ·rw [cell_other (by exact hbk b e)] at hx;exact h.al b e q x hx
theorem forms_grownS {w w':World} {a:Option Addr} {L:List AffQ} {v:Value} (h:FormsAt w a L) (hg:w.grownBy w' v.ownBlock) (ha:AllO isS w v):FormsAt w' a L:=by
 have hbs:AllO isBS w v:=fun g e o x hx=>by
  have:=ha g e o x hx;unfold isS at this
  split at this
  ·rfl
  ·cases this
 refine ⟨h.len,?_⟩
 rcases h.row with rfl | ⟨b,off,rfl,hb,hc⟩
 ·exact .inl rfl
 ·by_cases hl:L=[]
  ·exact .inl hl
  ·have hp:=List.length_pos_iff.2 hl;obtain ⟨p0,p1,p2,p3,h0,h1,_,_,_,h4⟩:=hc 0 L[0] (List.getElem?_eq_getElem hp);obtain ⟨_,_,_,_,rfl,_⟩:=h4.ex;have hne:some b ≠ v.ownBlock:=fun e=>by have:=ha b e.symm _ _ h1;cases this
   have hcell:∀ o,w'.cell? ⟨b,o,none⟩=w.cell? ⟨b,o,none⟩:=fun o=>World.cell?_of_block (hg.block b hb hne)
   refine .inr ⟨b,off,rfl,Nat.lt_of_lt_of_le hb hg.size,fun j x hj=>?_⟩
   obtain ⟨p0,p1,p2,p3,h0,h1,h2,h3,h4⟩:=hc j x hj;exact ⟨p0,p1,p2,p3,(hcell _).trans h0,(hcell _).trans h1,(hcell _).trans h2,(hcell _).trans h3,formK.grown h4 hg hbs⟩
theorem AllO.sbs {w:World} {v:Value} (ha:AllO isS w v):AllO isBS w v:=fun g e o x hx=>by
 have:=ha g e o x hx;unfold isS at this
 split at this
 ·rfl
 ·cases this
theorem FRow.grownS {gG n:Nat} {w w':World} {a:Option Addr} {L U:List AffQ} {v:Value} (h:FRow gG w a L) (hL:LSt w gG n U) (hg:w.grownBy w' v.ownBlock) (hf:∀ b,v.ownBlock=some b->Fre gG w b) (ha:AllO isS w v):FRow gG w' a L:=by
 obtain ⟨e,_⟩:=ub_grown hL hg hf;exact ⟨forms_grownS h.at' hg ha,h.fr.imp id fun hf' p hp=>⟨Nat.lt_of_lt_of_le (hf' p hp).lt hg.size,(hf' p hp).ne,by rw [e];exact (hf' p hp).nu⟩⟩
theorem Fre.grown {gG n b:Nat} {w w':World} {U:List AffQ} {v:Value} (h:Fre gG w b) (hL:LSt w gG n U) (hg:w.grownBy w' v.ownBlock) (hf:∀ b,v.ownBlock=some b->Fre gG w b):Fre gG w' b:=by
 obtain ⟨e,_⟩:=ub_grown hL hg hf;exact ⟨Nat.lt_of_lt_of_le h.lt hg.size,h.ne,by rw [e];exact h.nu⟩
theorem wpList_appFF {P:Program} {w:World} {ops:Array Oper} {rest:List Oper} {o:Oper} {a:Act} {Q:Exit->Act->World->Prop} (hgd:o.guard=none) (s x:Operand) (t:TypeId)
  (ho:o.op=.call { callee:=.builtin .append,args:=#[s,x],argTypes:=#[t,t] })
  (gG nn base:Nat) (ht:P.underlying t=some (.slice 28)) (hinfo:(P.info? 28).map (fun i=>(i.zero,i.size,i.bytes))=some (some (.slice none 0 0),1,24))
  (v:Value) (n:Nat) (Y:List (List AffQ)) (U:List AffQ) (hn:Y.length=n) (hs:a.eval s=v) (hown:OwnFF gG w base v Y) (hL:LSt w gG nn U) (y:List AffQ) (m:Nat) (hm:y.length=m) (aj:Option Addr) (cj:Nat) (hcj:m<=cj) (hy:FRow gG w aj y)
  (g:Nat) (hg1:w.cell? ⟨g,0,none⟩=some (.slice aj m cj))
  (hx:a.eval x=.slice (some ⟨g,0,none⟩) 1 1) (hL':n+1<=2000000000000) (hbase:base<=w.heap.size)
  (h:∀ b k w',OwnFF gG w' base (.slice b (n+1) k) (Y++[y])->n+1<=k->w.grownBy w' v.ownBlock->wpList P ops Q rest (a.put o.dst (.slice b (n+1) k)) w'):
  wpList P ops Q (o::rest) a w:=by
 subst hn hm
 refine wpList_plain hgd fun K hK=>?_
 obtain ⟨i,hi,hz,hsize,hby⟩:=info_parts hinfo;obtain ⟨xs,hox,he⟩:=hown.ex;have hcells:∀ (j:Nat) (u:Value),[Value.slice aj y.length cj][j]? =some u->w.cell? (Addr.add ⟨g,0,none⟩ j)=some u:=by
  intro j u hj;rw [Addr.add_lit]
  match j,hj with
  | 0,hj=>rw [<- hj];exact hg1
 obtain ⟨v',w',hr,r2,r3,r4,r5⟩:=run_append_all (P:=P) isS w base t o.type _ i _ 1 24 ht hi hz hsize hby (by simp [Value.cells]) (by omega) v Y.length xs hox ⟨g,0,none⟩ 1 1
  [.slice aj y.length cj] rfl hcells (by intro u hu;simp at hu;subst hu;rfl) (by omega) (by unfold maxLen;omega) (by omega) hbase
  hown.al (by intro u hu;simp at hu;subst hu;rfl) (by intro u hu;simp [Value.cells] at hu;subst hu;rfl)
 obtain ⟨eu,_⟩:=ub_grown hL r3 hown.fr;have hO:OwnFF gG w' base v' (Y++[y]):=by
  refine ⟨⟨_,by simpa using r2,fun j z hj=>?_⟩,r5,fun b hb=>?_⟩
  ·by_cases hlt:j < Y.length
   ·rw [List.getElem?_append_left hlt] at hj;obtain ⟨bj,dj,q1,q2,q3⟩:=he j z hj;exact ⟨bj,dj,by rw [List.getElem?_append_left (by rw [hox.1];omega)];exact q1,q2,q3.grownS hL r3 hown.fr hown.al⟩
   ·have hlt':=(List.getElem?_eq_some_iff.1 hj).1;simp only [List.length_append,List.length_cons,List.length_nil] at hlt';obtain rfl:j=Y.length:=by omega
    have e2:z=y:=by simpa using hj.symm
    subst e2;exact ⟨aj,cj,by rw [List.getElem?_append_right (by rw [hox.1];omega)];simp [hox.1],hcj,hy.grownS hL r3 hown.fr hown.al⟩
  ·rcases r4 with e2 | ⟨g',e2,hge⟩
   ·have hf:=hown.fr b (e2.symm.trans hb);exact hf.grown hL r3 hown.fr
   ·rw [e2] at hb;cases hb;have hlt:=r2.lt _ e2
    refine ⟨hlt.2,by have:=hL.lt;omega,fun e3=>?_⟩
    rw [eu] at e3;have:=hL.ub_ge e3;omega
 obtain ⟨b,k,e,hk⟩:=own_form1c r2;subst e;unfold Oper.wp execOp;simp only [ho,resolve,invoke,builtin,Sem.run_bind,Sem.run_pure,Result.andThen_ok,List.map_toArray,List.map_cons,List.map_nil,hs,hx,hr];exact hK _ _ (h b k w' hO hk r3)
def LowV.cells (s:LowV):Array Value:=#[.int .i64 s.kd,.int .i64 s.fr,.int .i64 s.ot,.int .i64 s.kh,.int .i64 s.kw,.int .i64 s.st,.int .i64 s.pd,.slice s.a1 s.n1 s.c1,.slice s.a2 s.n2 s.c2,.slice s.aS s.nS s.cS,.slice s.ax s.nx s.cx,.slice s.aT s.nT s.cT,s.fu]
def LowV.fn (s:LowV) (i:Nat):Value:=s.cells.getD i undef
theorem LoBox.fn {W:World} {g:Nat} {s:LowV} (h:BoxF W g 13 s.fn):LoBox W g s:=
 ⟨h.c 0 (by omega),h.c 1 (by omega),h.c 2 (by omega),h.c 3 (by omega),h.c 4 (by omega),h.c 5 (by omega),h.c 6 (by omega),h.c 7 (by omega),h.c 8 (by omega),h.c 9 (by omega),h.c 10 (by omega),h.c 11 (by omega),h.c 12 (by omega),h.free,h.lt⟩
def LowV.lay (s:LowV) (l:LayL) (b1:Option Addr) (d1:Nat) (b2:Option Addr) (d2:Nat):LowV:=
 { s with kd:=l.kind,fr:=l.frm,ot:=l.out,kh:=l.kh,kw:=l.kw,st:=l.stride,pd:=l.pad,a1:=b1,n1:=l.weights.length,c1:=d1,a2:=b2,n2:=l.bias.length,c2:=d2 }
def LowV.nums (s:LowV) (a:Option Addr) (n c:Nat):LowV:={ s with ax:=a,nx:=n,cx:=c }
def LowV.shap (s:LowV) (a:Option Addr) (n c:Nat):LowV:={ s with aS:=a,nS:=n,cS:=c }
def LowV.trc (s:LowV) (a:Option Addr) (n c:Nat):LowV:={ s with aT:=a,nT:=n,cT:=c }
def LowV.fnc (s:LowV) (v:Value):LowV:={ s with fu:=v }
structure LwB (w1:World) (gG gL n:Nat) (wr:World) (f:Nat->Value) (U:List AffQ) (tr:Value) (Y:List (List AffQ)) (ax:Option Addr) (X:List AffQ):Prop where
 box:BoxF wr gL 13 f
 ai:AllB isZF wr gL
 fre:Fre gG wr gL
 un:LSt wr gG n U
 own:OwnFF gG wr (gL+1) tr Y
 cur:FRow gG wr ax X
 bl:Below gG w1 wr
 lt:gG < gL
section
variable {w1:World} {gG gL n:Nat} {wr w':World} {f f':Nat->Value} {U U':List AffQ} {tr tr':Value} {Y Y':List (List AffQ)} {ax ax':Option Addr} {X X':List AffQ}
theorem LwB.set (h:LwB w1 gG gL n wr f U tr Y ax X) {i:Nat} (hi:i < 13) {u:Value} (hu:isZF u=true):LwB w1 gG gL n (wr.setCell ⟨gL,i,none⟩ u) (updF f i u) U tr Y ax X:=
 ⟨h.box.set hi u,h.ai.set i hu,h.fre.set h.fre.ne,h.un.setZ h.fre h.ai,h.own.setZ h.ai h.fre.ne (Nat.lt_succ_self _),h.cur.setZ h.ai h.fre.ne,h.bl.setCell (p:=⟨gL,i,none⟩) (Nat.le_of_lt h.lt) u,h.lt⟩
theorem LwB.stp (h:LwB w1 gG gL n wr f U tr Y ax X) (hs:Stp gG wr w') (hU:LSt w' gG n U'):LwB w1 gG gL n w' f U' tr Y ax X:=
 ⟨⟨fun i hi=>(h.fre.cell hs).trans (h.box.c i hi),fun i=>(h.fre.frozen hs).trans (h.box.free i),Nat.lt_of_lt_of_le h.box.lt hs.size⟩,fun o x e=>h.ai o x (by rw [h.fre.cell hs] at e;exact e),h.fre.stp hs,hU,h.own.stp h.un hs,h.cur.stp h.un hs,h.bl.trans (hs.below h.un),h.lt⟩
theorem LwB.below (h:LwB w1 gG gL n wr f U tr Y ax X) (hb:Below wr.heap.size wr w'):LwB w1 gG gL n w' f U tr Y ax X:=h.stp (Stp.of hb h.un.lt) (h.un.below hb)
theorem LwB.congr (h:LwB w1 gG gL n wr f U tr Y ax X) (e:∀ i,i < 13->f i=f' i):LwB w1 gG gL n wr f' U tr Y ax X:=⟨h.box.congr e,h.ai,h.fre,h.un,h.own,h.cur,h.bl,h.lt⟩
theorem LwB.cur' (h:LwB w1 gG gL n wr f U tr Y ax X) (hc:FRow gG wr ax' X'):LwB w1 gG gL n wr f U tr Y ax' X':=⟨h.box,h.ai,h.fre,h.un,h.own,hc,h.bl,h.lt⟩
theorem LwB.own' (h:LwB w1 gG gL n wr f U tr Y ax X) (hc:OwnFF gG wr (gL+1) tr' Y'):LwB w1 gG gL n wr f U tr' Y' ax X:=⟨h.box,h.ai,h.fre,h.un,hc,h.cur,h.bl,h.lt⟩
theorem LwB.app (h:LwB w1 gG gL n wr f U tr Y ax X) (ho:OwnFF gG w' (gL+1) tr' Y') (hg:wr.grownBy w' tr.ownBlock):LwB w1 gG gL n w' f U tr' Y' ax X:=by
 have hne:some gL ≠ tr.ownBlock:=fun e=>by have:=(h.own.lt e.symm).1;omega
 have hb:w'.heap[gL]? =wr.heap[gL]? :=hg.block gL h.box.lt hne;have hc:∀ o,w'.cell? ⟨gL,o,none⟩=wr.cell? ⟨gL,o,none⟩:=fun o=>World.cell?_of_block hb
 refine ⟨⟨fun i hi=>(hc i).trans (h.box.c i hi),fun i=>(World.frozen?_of_block hb).trans (h.box.free i),Nat.lt_of_lt_of_le h.box.lt hg.size⟩,fun o x e=>h.ai o x (by rw [hc] at e;exact e),h.fre.grown h.un hg h.own.fr,h.un.grown hg h.own.fr h.own.al.sbs,ho,h.cur.grownS h.un hg h.own.fr h.own.al,?_,h.lt⟩
 exact h.bl.grown hg (Nat.le_of_lt h.un.lt) (fun k hk=>by have:=(h.own.lt hk).1;have:=h.lt;omega)
theorem LwB.lay {s:LowV} (h:LwB w1 gG gL n wr s.fn U tr Y ax X) (l:LayL) (b1:Option Addr) (d1:Nat) (b2:Option Addr) (d2:Nat):
  LwB w1 gG gL n (((((((((wr.setCell ⟨gL,0,none⟩ (.int .i64 l.kind)).setCell ⟨gL,1,none⟩ (.int .i64 l.frm)).setCell ⟨gL,2,none⟩ (.int .i64 l.out)).setCell ⟨gL,3,none⟩ (.int .i64 l.kh)).setCell ⟨gL,4,none⟩ (.int .i64 l.kw)).setCell ⟨gL,5,none⟩ (.int .i64 l.stride)).setCell ⟨gL,6,none⟩ (.int .i64 l.pad)).setCell ⟨gL,7,none⟩ (.slice b1 l.weights.length d1)).setCell ⟨gL,8,none⟩ (.slice b2 l.bias.length d2))
   (s.lay l b1 d1 b2 d2).fn U tr Y ax X:=by
 refine (((((((((h.set (i:=0) (by omega) rfl).set (i:=1) (by omega) rfl).set (i:=2) (by omega) rfl).set (i:=3) (by omega) rfl).set (i:=4) (by omega) rfl).set (i:=5) (by omega) rfl).set (i:=6) (by omega) rfl).set (i:=7) (by omega) rfl).set (i:=8) (by omega) rfl).congr ?_
 exact all13 rfl rfl rfl rfl rfl rfl rfl rfl rfl rfl rfl rfl rfl
theorem LwB.nums {s:LowV} (h:LwB w1 gG gL n wr s.fn U tr Y ax X) (a:Option Addr) (k c:Nat):LwB w1 gG gL n (wr.setCell ⟨gL,10,none⟩ (.slice a k c)) (s.nums a k c).fn U tr Y ax X:=
 (h.set (i:=10) (by omega) rfl).congr (all13 rfl rfl rfl rfl rfl rfl rfl rfl rfl rfl rfl rfl rfl)
theorem LwB.shap {s:LowV} (h:LwB w1 gG gL n wr s.fn U tr Y ax X) (a:Option Addr) (k c:Nat):LwB w1 gG gL n (wr.setCell ⟨gL,9,none⟩ (.slice a k c)) (s.shap a k c).fn U tr Y ax X:=
 (h.set (i:=9) (by omega) rfl).congr (all13 rfl rfl rfl rfl rfl rfl rfl rfl rfl rfl rfl rfl rfl)
theorem LwB.trc {s:LowV} (h:LwB w1 gG gL n wr s.fn U tr Y ax X) (a:Option Addr) (k c:Nat):LwB w1 gG gL n (wr.setCell ⟨gL,11,none⟩ (.slice a k c)) (s.trc a k c).fn U tr Y ax X:=
 (h.set (i:=11) (by omega) rfl).congr (all13 rfl rfl rfl rfl rfl rfl rfl rfl rfl rfl rfl rfl rfl)
theorem LwB.fnc {s:LowV} (h:LwB w1 gG gL n wr s.fn U tr Y ax X) {v:Value} (hv:isZF v=true):LwB w1 gG gL n (wr.setCell ⟨gL,12,none⟩ v) (s.fnc v).fn U tr Y ax X:=
 (h.set (i:=12) (by omega) hv).congr (all13 rfl rfl rfl rfl rfl rfl rfl rfl rfl rfl rfl rfl rfl)
end
theorem LSt.make (w1:World) (n:Nat) (T:Nat):LSt (w1.alloc (.cells #[.int .i64 (n:Int),.slice none 0 0,.slice none 0 0] T)) w1.heap.size n []:=by
 refine ⟨?_,⟨none,0,?_,Own4.nil _ _⟩,?_,fun o ho=>?_,fun o=>World.frozen?_alloc_new _ _ _ _,by simp⟩
 ·rw [World.cell?_alloc_at _ _ _ _ rfl];rfl
 ·rw [World.cell?_alloc_at _ _ _ _ rfl];rfl
 ·rw [World.cell?_alloc_at _ _ _ _ rfl];rfl
 ·rw [World.cell?_alloc_at _ _ _ _ rfl];exact Array.getElem?_eq_none (by simpa using ho)
theorem LwB.make {w1 W:World} {gG n:Nat} (hL:LSt W gG n []) (hb:Below gG w1 W) (s:LowV) (hs:isZF s.fu=true) (T:Nat) (X:List AffQ) (hX:FRow gG W s.ax X):LwB w1 gG W.heap.size n (W.alloc (.cells s.cells T)) s.fn [] (.slice none 0 0) [] s.ax X:=by
 have hal:=blA W (.cells s.cells T);have hc:∀ o,(W.alloc (.cells s.cells T)).cell? ⟨W.heap.size,o,none⟩=s.cells[o]? :=fun o=>World.cell?_alloc_at _ _ _ _ rfl
 have hfr:=hL.fresh hal (Nat.le_refl _) (by simp)
 refine ⟨⟨all13 (hc 0) (hc 1) (hc 2) (hc 3) (hc 4) (hc 5) (hc 6) (hc 7) (hc 8) (hc 9) (hc 10) (hc 11) (hc 12),fun o=>World.frozen?_alloc_new _ _ _ _,by simp⟩,AllB.of_heap (heap_alloc_new W _) ?_,hfr,hL.below hal,OwnFF.nil _ _ _,hX.stp hL (Stp.of hal hL.lt),hb.trans (hal.mono (Nat.le_of_lt hL.lt)),hL.lt⟩
 intro u hu;simp [LowV.cells] at hu
 rcases hu with rfl | rfl | rfl | rfl | rfl | rfl | rfl | rfl | rfl | rfl | rfl | rfl | rfl <;> first | rfl | exact hs
structure GraphV (w:World) (v:Value) (G:GraphQ):Prop where
 ex:∃ aU cU aO cO,v=.agg #[.int .i64 (G.inputs:Int),.slice aU G.units.length cU,.slice aO G.outs.length cO]/\G.units.length<=cU/\G.outs.length<=cO/\FormsAt w aU G.units/\FormsAt w aO G.outs
theorem GraphV.below {w w':World} {v:Value} {G:GraphQ} (h:GraphV w v G) (hb:Below w.heap.size w w'):GraphV w' v G:=by
 obtain ⟨aU,cU,aO,cO,e,h1,h2,h3,h4⟩:=h.ex;exact ⟨aU,cU,aO,cO,e,h1,h2,h3.below formK hb,h4.below formK hb⟩
def LowPost (w:World) (R:GraphQ × Int) (e:Ending) (w':World):Prop:=∃ v,e=.returned (.tuple #[v,.int .i64 R.2])/\GraphV w' v R.1/\Below w.heap.size w w'
theorem graph_zero (w:World):GraphV w (.agg #[.int .i64 0,.slice none 0 0,.slice none 0 0]) emptyG:=⟨none,0,none,0,rfl,Nat.le_refl _,Nat.le_refl _,Row4.nil _ _,Row4.nil _ _⟩
theorem FOwn.setZ {gG g o:Nat} {w:World} {base:Nat} {v:Value} {L:List AffQ} {u:Value} (h:FOwn gG w base v L) (hg:AllB isZF w g) (hne:g ≠ gG) (hb:g < base):FOwn gG (w.setCell ⟨g,o,none⟩ u) base v L:=by
 have hbk:∀ b,v.ownBlock=some b->b ≠ g:=fun b e=>by have:=(h.own.lt e).1;omega
 refine ⟨⟨?_,fun b e q x hx=>?_⟩,fun b e=>(h.fr b e).set hne⟩
 ·obtain ⟨xs,ho,he⟩:=h.own.ex
  refine ⟨xs,⟨ho.1,?_⟩,fun j y hj=>?_⟩
  ·rcases ho.2 with k | ⟨b,cap,cur,rfl,k1,k2,k3⟩
   ·exact .inl k
   ·exact .inr ⟨b,cap,cur,rfl,k1,(Below.heap_setCell _ _ _ _ (show b ≠ g from hbk b rfl)).trans k2,k3⟩
  ·obtain ⟨p0,p1,p2,p3,h0,h1',h2,h3,h4⟩:=he j y hj;exact ⟨p0,p1,p2,p3,h0,h1',h2,h3,h4.setZ hg⟩
 ·rw [cell_other (by exact hbk b e)] at hx;exact h.own.al b e q x hx
theorem FOwn.app {gG n:Nat} {w w':World} {base:Nat} {v v':Value} {L U:List AffQ} {f:AffQ} (h:FOwn gG w base v L) (hL:LSt w gG n U) (ho:OwnF w' base v' (L++[f])) (hg:w.grownBy w' v.ownBlock) (hn:Next w v v'):FOwn gG w' base v' (L++[f]):=by
 obtain ⟨e,_⟩:=ub_grown hL hg h.fr
 refine ⟨ho,fun b hb=>?_⟩
 rcases hn with e2 | ⟨g,e2,hge⟩
 ·exact (h.fr b (e2.symm.trans hb)).grown hL hg h.fr
 ·rw [e2] at hb;cases hb
  refine ⟨(ho.lt e2).2,by have:=hL.lt;omega,fun e3=>?_⟩
  rw [e] at e3;have:=hL.ub_ge e3;omega
theorem LwB.appX {w1:World} {gG gL n:Nat} {wr w':World} {f:Nat->Value} {U:List AffQ} {ax ax':Option Addr} {X L X':List AffQ} {v:Value} (h:LwB w1 gG gL n wr f U (.slice none 0 0) [] ax X) (ho:FOwn gG wr (gL+1) v L) (hg:wr.grownBy w' v.ownBlock) (hc:FRow gG w' ax' X'):
  LwB w1 gG gL n w' f U (.slice none 0 0) [] ax' X':=by
 have hne:some gL ≠ v.ownBlock:=fun e=>by have:=(ho.own.lt e.symm).1;omega
 have hb:w'.heap[gL]? =wr.heap[gL]? :=hg.block gL h.box.lt hne;have hcl:∀ o,w'.cell? ⟨gL,o,none⟩=wr.cell? ⟨gL,o,none⟩:=fun o=>World.cell?_of_block hb
 exact ⟨⟨fun i hi=>(hcl i).trans (h.box.c i hi),fun i=>(World.frozen?_of_block hb).trans (h.box.free i),Nat.lt_of_lt_of_le h.box.lt hg.size⟩,fun o x e=>h.ai o x (by rw [hcl] at e;exact e),h.fre.grown h.un hg ho.fr,h.un.grown hg ho.fr ho.own.al,OwnFF.nil _ _ _,hc,
  h.bl.grown hg (Nat.le_of_lt h.un.lt) (fun k hk=>by have:=(ho.own.lt hk).1;have:=h.lt;omega),h.lt⟩
theorem OwnFF.one {gG n base:Nat} {w:World} {U:List AffQ} {a:Option Addr} {y:List AffQ} {m c:Nat} (hL:LSt w gG n U) (hy:FRow gG w a y) (hm:y.length=m) (hc:m<=c) (hb:base<=w.heap.size):
  OwnFF gG (w.alloc (.cells #[.slice a m c] 28)) base (.slice (some ⟨w.heap.size,0,none⟩) 1 1) [y]:=by
 subst hm;have hal:=blA w (.cells #[.slice a y.length c] 28)
 refine ⟨⟨[.slice a y.length c],⟨rfl,.inr ⟨w.heap.size,1,#[.slice a y.length c],rfl,hb,heap_alloc_new w _,Nat.le_refl _,by decide,rfl,rfl⟩⟩,fun j z hj=>?_⟩,fun g e=>?_,fun b e=>?_⟩
 ·match j,hj with
  | 0,hj=>
   cases hj;exact ⟨a,c,rfl,hc,hy.stp hL (Stp.of hal hL.lt)⟩
 ·cases e;exact AllB.of_heap (heap_alloc_new w _) (by intro u hu;simp at hu;subst hu;rfl)
 ·cases e;exact hL.fresh hal (Nat.le_refl _) (by simp)
theorem OwnFF.at' {gG:Nat} {w:World} {base:Nat} {a:Option Addr} {n c:Nat} {Y:List (List AffQ)} (h:OwnFF gG w base (.slice a n c) Y) {j:Nat} {y:List AffQ} (hj:Y[j]? =some y):
  ∃ (bT:Nat) (af:Option Addr) (cf:Nat),a=some ⟨bT,0,none⟩/\bT < w.heap.size/\w.cell? ⟨bT,0+j,none⟩=some (.slice af y.length cf)/\FRow gG w af y:=by
 obtain ⟨xs,ho,he⟩:=h.ex;obtain ⟨af,cf,k1,k2,k3⟩:=he j y hj
 rcases ho.2 with ⟨e,hn⟩ | ⟨g,cap,cur,e,hb,hg,hnc,hcm,hcs,htake⟩
 ·rw [List.eq_nil_of_length_eq_zero hn] at hj;simp at hj
 ·cases e;have k:=ho.cells (g:=g) rfl _ _ k1;simp only [Addr.add_lit] at k;exact ⟨g,af,cf,rfl,(Array.getElem?_eq_some_iff.1 hg).1,k,k3⟩
theorem Row4.src {α:Type} {P:World->Value->Value->Value->Value->α->Prop} {p:Value->Bool} (hP:Keeps4 P p) {w:World} {a:Option Addr} {L:List α} (h:Row4 P w a L):
  ∃ news,SrcOK w a L.length 4 news/\(∀ u ∈ news,p u=true)/\∀ (j:Nat) (x:α),L[j]? =some x->∃ p0 p1 p2 p3,news[j * 4]? =some p0/\news[j * 4+1]? =some p1/\news[j * 4+2]? =some p2/\news[j * 4+3]? =some p3/\P w p0 p1 p2 p3 x:=by
 rcases h.row with rfl | ⟨b,off,rfl,hb,hc⟩
 ·exact ⟨[],⟨rfl,by simp,fun hm=>by simp at hm⟩,by simp,by simp⟩
 ·have key:∀ o,o < L.length * 4->∃ u,w.cell? ⟨b,off+o,none⟩=some u/\u.oneCell'=true/\p u=true:=by
   intro o ho;have hq:o / 4 < L.length:=by omega
   obtain ⟨p0,p1,p2,p3,h0,h1,h2,h3,h4⟩:=hc (o / 4) L[o / 4] (List.getElem?_eq_getElem hq);have hone:=hP.one h4;have hr:o=o / 4 * 4 ∨ o=o / 4 * 4+1 ∨ o=o / 4 * 4+2 ∨ o=o / 4 * 4+3:=by omega
   rcases hr with e | e | e | e
   ·exact ⟨p0,by rw [e];exact h0,hone p0 (by simp)⟩
   ·exact ⟨p1,by rw [e];exact h1,hone p1 (by simp)⟩
   ·exact ⟨p2,by rw [e];exact h2,hone p2 (by simp)⟩
   ·exact ⟨p3,by rw [e];exact h3,hone p3 (by simp)⟩
  have hat:∀ (j:Nat) (u:Value),((List.range (L.length * 4)).map fun o=>(w.cell? ⟨b,off+o,none⟩).getD undef)[j]? =some u->j < L.length * 4/\w.cell? ⟨b,off+j,none⟩=some u:=by
   intro j u hj;have hlt:=(List.getElem?_eq_some_iff.1 hj).1;simp only [List.length_map,List.length_range] at hlt;obtain ⟨u',h1,_⟩:=key j hlt;rw [List.getElem?_map,List.getElem?_range hlt] at hj;simp only [Option.map_some,h1,Option.getD_some,Option.some.injEq] at hj;exact ⟨hlt,by rw [h1,hj]⟩
  have hget:∀ (o:Nat) (u:Value),o < L.length * 4->w.cell? ⟨b,off+o,none⟩=some u->((List.range (L.length * 4)).map fun o=>(w.cell? ⟨b,off+o,none⟩).getD undef)[o]? =some u:=by
   intro o u ho hu;rw [List.getElem?_map,List.getElem?_range ho];simp [hu]
  refine ⟨(List.range (L.length * 4)).map fun o=>(w.cell? ⟨b,off+o,none⟩).getD undef,⟨by simp,fun u hu=>?_,fun _=>⟨b,off,rfl,hb,fun j u hj=>(hat j u hj).2⟩⟩,fun u hu=>?_,fun j x hj=>?_⟩
  ·obtain ⟨j,hj⟩:=List.getElem?_of_mem hu;obtain ⟨hlt,hcl⟩:=hat j u hj;obtain ⟨u',h1,h2,_⟩:=key j hlt;rw [h1] at hcl;cases hcl;exact h2
  ·obtain ⟨j,hj⟩:=List.getElem?_of_mem hu;obtain ⟨hlt,hcl⟩:=hat j u hj;obtain ⟨u',h1,_,h2⟩:=key j hlt;rw [h1] at hcl;cases hcl;exact h2
  ·have hlt:=(List.getElem?_eq_some_iff.1 hj).1;obtain ⟨p0,p1,p2,p3,h0,h1,h2,h3,h4⟩:=hc j x hj;exact ⟨p0,p1,p2,p3,hget _ _ (by omega) h0,hget _ _ (by omega) h1,hget _ _ (by omega) h2,hget _ _ (by omega) h3,h4⟩
theorem forms_gset {w:World} {gG o:Nat} {u:Value} {a:Option Addr} {L:List AffQ} (h:FormsAt w a L) (hg:GBk w gG):FormsAt (w.setCell ⟨gG,o,none⟩ u) a L:=by
 refine ⟨h.len,?_⟩
 rcases h.row with rfl | ⟨b,off,rfl,hb,hc⟩
 ·exact .inl rfl
 ·by_cases hl:L=[]
  ·exact .inl hl
  ·have hp:=List.length_pos_iff.2 hl;obtain ⟨p0,p1,p2,p3,h0,h1,_,_,_,h4⟩:=hc 0 L[0] (List.getElem?_eq_getElem hp);obtain ⟨_,_,_,_,rfl,_⟩:=h4.ex;have hf:b ≠ gG:=by
    rintro rfl;obtain ⟨⟨y,z0⟩,⟨a1,n1,c1,z1⟩,⟨a2,n2,c2,z2⟩,z3⟩:=hg;generalize off+0 * 4+1=q at h1
    match q,h1 with
    | 0,h1=>rw [z0] at h1;cases h1
    | 1,h1=>rw [z1] at h1;cases h1
    | 2,h1=>rw [z2] at h1;cases h1
    | q+3,h1=>rw [z3 (q+3) (by omega)] at h1;cases h1
   refine .inr ⟨b,off,rfl,by simpa using hb,fun j x hj=>?_⟩
   obtain ⟨p0,p1,p2,p3,h0,h1,h2,h3,h4⟩:=hc j x hj;exact ⟨p0,p1,p2,p3,(cell_other (by exact hf)).trans h0,(cell_other (by exact hf)).trans h1,(cell_other (by exact hf)).trans h2,(cell_other (by exact hf)).trans h3,h4.gset hg⟩
end Go.Proofs.YtfgmmghmmfmdgaaGreat
