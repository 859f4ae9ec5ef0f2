/-
  Contracts of the functions that the statement reaches: ModQ, ModS, ModT, ModU, ModV, EvO, PvG, PvH, LwC, LwG, LinJ, RhD, RjA, LinK.
-/
import Derived.Test.YtfgmmghmmfmdgaaGreatX30
import Derived.Test.YtfgmmghmmfmdgaaGreatX31
import Derived.Test.YtfgmmghmmfmdgaaGreatX32
import Derived.Test.YtfgmmghmmfmdgaaGreatX33
set_option linter.all false
set_option maxRecDepth 100000
set_option maxHeartbeats 3200000
namespace Go.Proofs.YtfgmmghmmfmdgaaGreat
open Go.RowKit
open Go.Lib (hid)
def RunPost (w:World) (R:List RatL × Int) (e:Ending) (w':World):Prop:=∃ a c,e=.returned (.tuple #[.slice a R.1.length c,.int .i64 R.2])/\R.1.length<=c/\RatsAt w' a R.1/\Below w.heap.size w w'
theorem validR_ratL (q:Rat):validR (ratL q)=true:=by
 unfold validR;rw [canonL_ratL,ratOf_ratL];exact decide_eq_true rfl
theorem small_num {q:Rat} (h:smallR (ratL q)=true):q.den<=4294967296/\q.num.natAbs<=18446744073709551616:=by
 unfold smallR at h;rw [Bool.and_eq_true,decide_eq_true_eq,decide_eq_true_eq] at h;obtain ⟨h1,h2⟩:=h
 constructor
 ·by_cases hd:q.den=1
  ·omega
  ·have e:(ratL q).den=limbs q.den:=by simp [ratL,hd]
   rw [e] at h2;have:=limbs_len_lt q.den;exact Nat.le_of_lt (Nat.lt_of_lt_of_le this (Nat.le_trans (Nat.pow_le_pow_right (by omega) h2) (by omega)))
 ·have e:(ratL q).num=limbs q.num.natAbs:=rfl;rw [e] at h1;have:=limbs_len_lt q.num.natAbs;exact Nat.le_of_lt (Nat.lt_of_lt_of_le this (Nat.le_trans (Nat.pow_le_pow_right (by omega) h1) (by decide)))
theorem little_back {L:List RatL} (h:littleL L=true):L=(L.map ratOf).map ratL/\∀ q ∈ L.map ratOf,q.den<=4294967296/\q.num.natAbs<=18446744073709551616:=by
 unfold littleL at h;rw [Bool.and_eq_true] at h;have hb:=validR_back h.2
 refine ⟨hb,fun q hq=>small_num ?_⟩
 exact List.all_eq_true.1 h.1 _ (by rw [hb];exact List.mem_map_of_mem hq)
theorem small_of {l:LayL} (h:okLay l=true):SmallL l:=by
 unfold okLay at h;simp only [Bool.and_eq_true,decide_eq_true_eq] at h;obtain ⟨h1,h2,h3,h4⟩:=h
 refine ⟨fun q hq=>?_,by rw [List.length_append];simp [wq,bq];omega⟩
 rcases List.mem_append.1 hq with hq | hq
 ·exact (little_back h3).2 q hq
 ·exact (little_back h4).2 q hq
theorem pow_room {a b c:Nat} (M:Nat) (hM:2<=M) (h:a+b+2<=c) {x y:Nat} (hx:x<=M^a) (hy:y<=M^b):x * y+y < M^c:=by
 have h1:x * y<=M^(a+b):=by rw [Nat.pow_add];exact Nat.mul_le_mul hx hy
 have h2:M^b<=M^(a+b):=Nat.pow_le_pow_right (by omega) (by omega);have h4:M^(a+b+2)<=M^c:=Nat.pow_le_pow_right (by omega) h;have h5:0 < M^(a+b):=Nat.pow_pos (by omega);have h6:M^(a+b+2)=M^(a+b) * (M * M):=by rw [Nat.pow_add,Nat.pow_two]
 have h7:4<=M * M:=Nat.mul_le_mul hM hM;have h8:M^(a+b) * 4<=M^(a+b) * (M * M):=Nat.mul_le_mul_left _ h7;omega
theorem pow_le3 {M C:Nat} (hC:C<=M^3) (k:Nat):C^k<=M^(3 * k):=by rw [Nat.pow_mul];exact Nat.pow_le_pow_left hC k
theorem room_gen (M C U p q u:Nat) (hM:2<=M) (hC:C<=M^3) (hU:U<=M^u) {W n c:Nat} (hW:W<=M^n) (hc:3+(3 * q+u)+(n+p * q+p)+2<=c):∀ D' B',D'<=W * (M^p)^q->B'<=C^q * U->(C * B') * (D' * M^p)+D' * M^p < M^c:=by
 intro D B hD hB;have h1:B<=M^(3 * q+u):=Nat.le_trans hB (by rw [Nat.pow_add];exact Nat.mul_le_mul (pow_le3 hC q) hU);have h2:C * B<=M^(3+(3 * q+u)):=by rw [Nat.pow_add M 3];exact Nat.mul_le_mul hC h1
 have h3:D<=M^(n+p * q):=Nat.le_trans hD (by rw [Nat.pow_add,Nat.pow_mul];exact Nat.mul_le_mul_right _ hW);have h4:D * M^p<=M^(n+p * q+p):=by rw [Nat.pow_add M (n+p * q)];exact Nat.mul_le_mul_right _ h3
 exact pow_room M hM hc h2 h4
theorem room_ofU {W U:Nat} {n u:Nat} (hW:W<=4294967296^n) (hU:U<=4294967296^u) (hn:n+u<=400):RoomK 12 W U:=by
 intro D B hD hB;unfold Room;obtain ⟨p,hp,e⟩:=WQ_pow;rw [e] at hD ⊢;have hc:3+(3 * 12+u)+(n+p * 12+p)+2<=524285:=by omega
 generalize (524285:Nat)=c at hc ⊢;exact room_gen 4294967296 9671406556917033397649408 U p 12 u (by omega) (by decide) hU hW hc D B hD hB
theorem room_of {W:Nat} {n:Nat} (hW:W<=4294967296^n) (hn:n<=390):RoomK 12 W 18446744073709551616:=room_ofU (u:=2) hW (by decide) (by omega)
structure Paid (m:ModL) (L:List RatL):Prop where
 back:L=(L.map ratOf).map ratL
 sm:∀ l ∈ m.layers,SmallL l
 room:∃ D,0 < D/\BdL D 18446744073709551616 (L.map ratOf)/\RoomK 12 D 18446744073709551616
 lens:m.layers.length<=8
 xl:L.length<=30
theorem fair_paid {m:ModL} {L:List RatL} (h:fairE m L=true):Paid m L:=by
 unfold fairE at h;simp only [Bool.and_eq_true,decide_eq_true_eq] at h;obtain ⟨h1,h2,h3,h4,h5,h6⟩:=h;obtain ⟨hb,hs⟩:=little_back h6;obtain ⟨W,w1,w2,w3⟩:=BdL.small _ hs;rw [List.length_map] at w2;exact ⟨hb,fun l hl=>small_of (List.all_eq_true.1 h5 l hl),⟨W,w1,w3,room_of w2 (by omega)⟩,h1,h3⟩
def exD:LayL:=⟨1,0,1,0,0,0,0,[ratL 1,ratL (-1)],[ratL 0]⟩
def exR:LayL:=⟨5,0,0,0,0,0,0,[],[]⟩
def exM:ModL:=⟨[2],[exD,exR]⟩
theorem ratL_one:ratL 1=⟨false,[1],[]⟩:=by
 have:=ratL_int 1;rw [show ((1:Int):Rat)=1 from rfl] at this;rw [this,show (1:Int).natAbs=1 from rfl,limbs_one];rfl
theorem ratL_mone:ratL (-1)=⟨true,[1],[]⟩:=by
 have:=ratL_int (-1);rw [show (((-1:Int)):Rat)= -1 from rfl] at this;rw [this,show (-1:Int).natAbs=1 from rfl,limbs_one];rfl
theorem exD_nums:numsB exD=true:=by unfold numsB exD;simp [validR_ratL]
theorem exR_nums:numsB exR=true:=rfl
theorem exD_ok:layOK exD 0=true:=by unfold layOK;rw [exD_nums];decide
theorem exR_ok:layOK exR 1=true:=by unfold layOK;rw [exR_nums];decide
theorem exD_out:outSL [2] [] exD=([1],0):=by
 unfold outSL;rw [show layOK exD (([]:List (List Int)).length:Int)=true from exD_ok]
 decide+kernel
theorem exR_out:outSL [2] [[1]] exR=([1],0):=by
 unfold outSL;rw [show layOK exR (([[1]]:List (List Int)).length:Int)=true from exR_ok]
 decide+kernel
theorem exM_valid:validM exM=true:=by
 show (validL [2] && (decide (2<=64) && (layOK exD 0 && (layOK exR (0+1) && true))))=true
 rw [exD_ok,show layOK exR (0+1)=true from exR_ok]
 decide
theorem exM_shapes:shapesL exM=([[1],[1]],0,0):=by
 unfold shapesL;rw [if_pos exM_valid];show shapesFrom [2] [] [exD,exR]=_
 unfold shapesFrom;rw [exD_out];show shapesFrom [2] [[1]] [exR]=_
 unfold shapesFrom;rw [exR_out];rfl
theorem exM_fair (p q:Rat) (hp:smallR (ratL p)=true) (hq:smallR (ratL q)=true):fairE exM ([p,q].map ratL)=true:=by
 have s1:smallR (ratL 1)=true:=by rw [ratL_one];rfl
 have s2:smallR (ratL (-1))=true:=by rw [ratL_mone];rfl
 have s0:smallR (ratL 0)=true:=by rw [ratL_zeroE];rfl
 have hl:littleL ([p,q].map ratL)=true:=by simp [littleL,hp,hq,validR_ratL]
 have hw:littleL [ratL 1,ratL (-1)]=true:=by simp [littleL,s1,s2,validR_ratL]
 have hb:littleL [ratL 0]=true:=by simp [littleL,s0,validR_ratL]
 have o1:okLay exD=true:=by
  unfold okLay;rw [show exD.weights=[ratL 1,ratL (-1)] from rfl,show exD.bias=[ratL 0] from rfl,hw,hb];rfl
 have o2:okLay exR=true:=rfl;unfold fairE;rw [hl,show exM.layers=[exD,exR] from rfl,List.all_cons,List.all_cons,o1,o2,show ([p,q].map ratL).length=2 from rfl]
 decide+kernel
theorem exM_range:∀ l ∈ exM.layers,LayRange l:=by
 intro l hl;have:l=exD ∨ l=exR:=by simpa [exM] using hl
 rcases this with rfl | rfl <;> (unfold LayRange I64;simp [exD,exR])
theorem exM_le:∀ l ∈ exM.layers,LayLe l:=by
 intro l hl;have:l=exD ∨ l=exR:=by simpa [exM] using hl
 have r1:RatLe (ratL 1) 1048576:=by rw [ratL_one];exact ⟨by simp,by simp⟩
 have r2:RatLe (ratL (-1)) 1048576:=by rw [ratL_mone];exact ⟨by simp,by simp⟩
 have r0:RatLe (ratL 0) 1048576:=by rw [ratL_zeroE];exact ⟨by simp,by simp⟩
 rcases this with rfl | rfl
 ·refine ⟨fun x hx=>?_,fun x hx=>?_⟩
  ·have:x=ratL 1 ∨ x=ratL (-1):=by simpa [exD] using hx
   rcases this with rfl | rfl <;> assumption
  ·have:x=ratL 0:=by simpa [exD] using hx
   subst this;exact r0
 ·exact ⟨by simp [exR],by simp [exR]⟩
theorem curr_valid {input:List Int} {S:List (List Int)} {l:LayL} (h:(outSL input S l).2=0):validL (currL input S)=true:=by
 rcases outSL_cases input S l with ⟨k,_,_⟩ | ⟨k,_⟩
 ·omega
 ·simp only [Bool.and_eq_true] at k;unfold currL
  cases hg:S.getLast? with
  | none=>exact k.1.1
  | some z=>exact List.all_eq_true.1 k.2 z (List.mem_of_getLast? hg)
theorem Chain.head {input:List Int} {S T:List (List Int)} {l:LayL} {L:List LayL} (h:Chain input S T (l::L)):∃ s T',T=s::T'/\outSL input S l=(s,0)/\Chain input (S++[s]) T' L:=by
 obtain ⟨hl,hc⟩:=h
 cases T with
 | nil=>simp at hl
 | cons s T'=>
  refine ⟨s,T',rfl,by simpa using hc 0 s l rfl rfl,by simpa using hl,fun j s' l' h1 h2=>?_⟩
  have:=hc (j+1) s' l' (by simpa using h1) (by simpa using h2)
  simpa using this
structure Fits (m:ModL) (x:List Rat) (T:List (List Int)) (Y:List (List Rat)):Prop where
 ch:Chain m.input [] T m.layers
 sh:shapesL m=(T,0,0)
 tr:traceQ m x=Y
theorem fits_of {m:ModL} (x:List Rat) (h:(shapesL m).2.2=0):∃ T,Fits m x T (traceQ m x):=by
 rcases shapesL_cases m with ⟨_,k⟩ | ⟨_,⟨T,hc,hT⟩ | ⟨k,_⟩⟩
 ·rw [k] at h;simp at h
 ·exact ⟨T,hc,hT,rfl⟩
 ·omega
theorem Fits.valid {m:ModL} {x:List Rat} {T:List (List Int)} {Y:List (List Rat)} (h:Fits m x T Y):validL m.input=true/\T.all validL=true/\m.layers.length<=64:=by
 have hs:=h.sh
 rcases shapesL_cases m with ⟨_,k⟩ | ⟨hv,_⟩
 ·rw [k] at hs;simp at hs
 ·unfold validM at hv;simp only [Bool.and_eq_true,decide_eq_true_eq] at hv;exact ⟨hv.1,h.ch.valid,hv.2.1⟩
theorem curr_ok {input:List Int} {T:List (List Int)} (h1:validL input=true) (h2:T.all validL=true):validL (currL input T)=true:=by
 unfold currL
 cases hg:T.getLast? with
 | none=>exact h1
 | some z=>exact List.all_eq_true.1 h2 z (List.mem_of_getLast? hg)
theorem cntL_app:∀ {L:List LayL} {T:List (List Int)} (l:LayL) (s:List Int),T.length=L.length->cntL (L++[l]) (T++[s])=cntL L T+cnt1 l (sizeL s)
 | [],[],l,s,_=>by
  show cnt1 l (sizeL s)+0=0+_
  omega
 | a::L,t::T,l,s,h=>by
  show cnt1 a (sizeL t)+cntL (L++[l]) (T++[s])=(cnt1 a (sizeL t)+cntL L T)+_
  rw [cntL_app l s (by simpa using h)];omega
 | [],_::_,_,_,h=>by simp at h
 | _::_,[],_,_,h=>by simp at h
theorem lower_size {m:ModL} {G:GraphQ} (h:lowerL m=(G,0)):(G.inputs:Int)=sizeL m.input/\1<=G.inputs/\G.inputs<=256/\G.units.length<=1024/\1<=G.outs.length/\G.outs.length<=256:=by
 have hcn:=(lower_count h).1;unfold countL at hcn;unfold lowerL at h
 by_cases h0:(shapesL m).2.2=0
 ·rw [if_pos h0] at h hcn
  split at h
  ·simp [emptyG] at h
  ·rename_i hlim
   obtain ⟨T,hF⟩:=fits_of (m:=m) [] h0;obtain ⟨hv,hvT,_⟩:=hF.valid;have hz1:1<=sizeL m.input/\sizeL m.input<=16384:=validL_size hv;have hz2:1<=sizeL (currL m.input T)/\sizeL (currL m.input T)<=16384:=validL_size (curr_ok hv hvT);obtain ⟨x,hx⟩:∃ x:List Rat,x.length=(sizeL m.input).toNat:=⟨List.replicate _ 0,List.length_replicate ..⟩
   have hsz:(x.length:Int)=sizeL m.input:=by omega
   have hI:=low_from (LowI.start hsz) hF.ch;have hc:=curr_size hI.len hI.size hI.x0;have hcl:=congrArg List.length hI.curr.2;rw [List.length_map] at hcl;have hG:G=⟨(sizeL m.input).toNat,(lowFrom (sizeL m.input).toNat m.input (varsF (sizeL m.input).toNat) [] [] [] m.layers).1,currF (varsF (sizeL m.input).toNat) (lowFrom (sizeL m.input).toNat m.input (varsF (sizeL m.input).toNat) [] [] [] m.layers).2⟩:=(congrArg Prod.fst h).symm;have hT:(shapesL m).1=T:=by rw [hF.sh]
   rw [hT] at hlim hcn;rw [List.nil_append] at hc;rw [<- hx] at hG;have ho:(G.outs.length:Int)=sizeL (currL m.input T):=by
    rw [hG];show ((currF (varsF x.length) _).length:Int)=_
    rw [hcl];exact hc
   have hi:(G.inputs:Int)=sizeL m.input:=by rw [hG];exact hsz
   have hu:(G.units.length:Int)=cntL m.layers T:=hcn
   refine ⟨hi,by omega,by omega,by omega,by omega,by omega⟩
 ·rw [if_neg h0] at h;exact absurd (congrArg Prod.snd h) h0
def mxL (h w:Nat):LayL:=⟨3,0,0,h,w,1,0,[],[]⟩
def mxM (h w:Nat):ModL:=⟨[1,(h:Int),(w:Int)],[mxL h w]⟩
theorem mx_cases {P:Nat->Nat->Prop} (hP:∀ h ∈ [1,2,3,4],∀ w ∈ [1,2,3,4],P h w) {h w:Nat} (h1:1<=h) (h2:h<=4) (w1:1<=w) (w2:w<=4):P h w:=by
 refine hP h ?_ w ?_
 ·have:h=1 ∨ h=2 ∨ h=3 ∨ h=4:=by omega
  rcases this with rfl | rfl | rfl | rfl <;> simp
 ·have:w=1 ∨ w=2 ∨ w=3 ∨ w=4:=by omega
  rcases this with rfl | rfl | rfl | rfl <;> simp
theorem mx_shapes {h w:Nat} (h1:1<=h) (h2:h<=4) (w1:1<=w) (w2:w<=4):shapesL (mxM h w)=([[1,1,1]],0,0):=
 mx_cases (P:=fun h w=>shapesL (mxM h w)=([[1,1,1]],0,0)) (by decide+kernel) h1 h2 w1 w2
theorem mx_win {h w:Nat} (h1:1<=h) (h2:h<=4) (w1:1<=w) (w2:w<=4):(windowsL [1,(h:Int),(w:Int)] h w 1 0).1=[iotaZ (h * w)]:=
 mx_cases (P:=fun h w=>(windowsL [1,(h:Int),(w:Int)] h w 1 0).1=[iotaZ (h * w)]) (by decide+kernel) h1 h2 w1 w2
theorem mx_size {h w:Nat} (h1:1<=h) (h2:h<=4) (w1:1<=w) (w2:w<=4):sizeL [1,(h:Int),(w:Int)]=((h * w:Nat):Int)/\h * w<=16:=
 mx_cases (P:=fun h w=>sizeL [1,(h:Int),(w:Int)]=((h * w:Nat):Int)/\h * w<=16) (by decide+kernel) h1 h2 w1 w2
theorem mx_count {h w:Nat} (h1:1<=h) (h2:h<=4) (w1:1<=w) (w2:w<=4):countL (mxM h w)=(((h * w - 1:Nat):Int),0):=
 mx_cases (P:=fun h w=>countL (mxM h w)=(((h * w - 1:Nat):Int),0)) (by decide+kernel) h1 h2 w1 w2
theorem mx_lower {h w:Nat} (h1:1<=h) (h2:h<=4) (w1:1<=w) (w2:w<=4):∃ G,lowerL (mxM h w)=(G,0)/\G.units.length=h * w - 1:=by
 obtain ⟨s1,s2⟩:=mx_size h1 h2 w1 w2;have hc:=mx_count h1 h2 w1 w2;have hpos:1<=h * w:=Nat.mul_pos h1 w1;have hcc:cntL (mxM h w).layers [[1,1,1]]=((h * w - 1:Nat):Int):=by
  unfold countL at hc;rw [mx_shapes h1 h2 w1 w2,if_pos rfl] at hc;exact congrArg Prod.fst hc
 have hl:∃ G,lowerL (mxM h w)=(G,0):=by
  unfold lowerL;rw [mx_shapes h1 h2 w1 w2,if_pos rfl];simp only;rw [if_neg]
  ·exact ⟨_,rfl⟩
  ·rw [hcc];rintro (k | k | k)
   ·rw [show (mxM h w).input=[1,(h:Int),(w:Int)] from rfl,s1] at k;omega
   ·omega
   ·have e:sizeL (currL (mxM h w).input [[1,1,1]])=1:=by
     show sizeL [1,1,1]=1
     decide
    rw [e] at k;omega
 obtain ⟨G,hG⟩:=hl
 refine ⟨G,hG,?_⟩
 have:=(lower_count hG).1;rw [hc] at this;have this:(G.units.length:Int)=((h * w - 1:Nat):Int):=this;omega
theorem vals_iota (x:List Rat):valsQ (iotaZ x.length) x=x:=by
 unfold valsQ iotaZ;rw [List.map_map];exact (same_range x).symm
theorem mx_outs {h w:Nat} {G:GraphQ} {x:List Rat} (h1:1<=h) (h2:h<=4) (w1:1<=w) (w2:w<=4) (hG:lowerL (mxM h w)=(G,0)) (hx:x.length=h * w):G.inputs=h * w/\G.outs.length=1/\G.outs.map (evalA (evalU x G.units))=[maxL x]:=by
 obtain ⟨s1,s2⟩:=mx_size h1 h2 w1 w2;have hsz:(x.length:Int)=sizeL (mxM h w).input:=by rw [hx];exact s1.symm
 obtain ⟨_,_,hi,hv⟩:=lower_outs hG hsz;have ht:currQ x (traceQ (mxM h w) x)=[maxL x]:=by
  show layQ (mxL h w) [1,(h:Int),(w:Int)] x (fromQ x [] 0)=_
  unfold layQ;show (if (3:Int)=1 then _ else if (3:Int)=2 then _ else if (3:Int)=3 then _ else _)=_
  rw [if_neg (by decide),if_neg (by decide),if_pos rfl];show poolQ maxL 1 ((h:Int).toNat * (w:Int).toNat) (windowsL [1,(h:Int),(w:Int)] h w 1 0).1 x=_
  rw [mx_win h1 h2 w1 w2,Int.toNat_natCast,Int.toNat_natCast, <- hx];show [maxL (valsQ (partL (iotaZ x.length) (0 * x.length) x.length) x)]=[maxL x]
  rw [Nat.zero_mul];unfold partL;rw [List.drop_zero,List.take_of_length_le (by rw [iotaZ_len];exact Nat.le_refl _),vals_iota]
 rw [ht] at hv
 refine ⟨by rw [hi,hx],?_,hv⟩
 have:=congrArg List.length hv;rw [List.length_map] at this;exact this
structure Box4 (w:World) (g:Nat) (p0 p1 p2 p3:Value):Prop where
 c0:w.cell? ⟨g,0,none⟩=some p0
 c1:w.cell? ⟨g,1,none⟩=some p1
 c2:w.cell? ⟨g,2,none⟩=some p2
 c3:w.cell? ⟨g,3,none⟩=some p3
 free:∀ o,w.frozen? ⟨g,o,none⟩=false
 lt:g < w.heap.size
inductive Sq where
 | val (v:Value)
 | rat (q:Rat)
 | trm (v:Nat) (q:Rat)
 | one (v:Nat) (q:Rat)
 | frm (f:AffQ)
 | onf (f:AffQ)
 | new4 (B:Nat)
 | num (q:Rat)
def GQ (L:List Sq) (i:Nat) (v:Value) (w:World):Prop:=
 match L[i]? with
 | some (.val x)=>v=x
 | some (.rat q)=>RatV w v (ratL q)
 | some (.trm u q)=>∃ p1 p2 p3,v=.agg #[.int .i64 (u:Int),p1,p2,p3]/\RatC w p1 p2 p3 q
 | some (.one u q)=>One4 TermP w v (u,q)
 | some (.frm f)=>FormV w v f
 | some (.onf f)=>One4 FormP w v f
 | some (.new4 B)=>∃ b,v=.pointer (some ⟨b,0,none⟩)/\B<=b/\Box4 w b (.slice none 0 0) (.bool false) (.slice none 0 0) (.slice none 0 0)/\NoInt w b
 | some (.num q)=>∃ p1 p2 p3,v=.agg #[.slice none 0 0,p1,p2,p3]/\RatC w p1 p2 p3 q
 | none=>True
theorem Box4.belowB {w w':World} {g B:Nat} {p0 p1 p2 p3:Value} (h:Box4 w g p0 p1 p2 p3) (hb:Below B w w') (hg:g < B):Box4 w' g p0 p1 p2 p3:=
 ⟨(hb.cell (p:=⟨g,0,none⟩) hg).trans h.c0,(hb.cell (p:=⟨g,1,none⟩) hg).trans h.c1,(hb.cell (p:=⟨g,2,none⟩) hg).trans h.c2,(hb.cell (p:=⟨g,3,none⟩) hg).trans h.c3,fun o=>(hb.frozen (p:=⟨g,o,none⟩) hg).trans (h.free o),Nat.lt_of_lt_of_le h.lt hb.size⟩
theorem Box4.below {w w':World} {g:Nat} {p0 p1 p2 p3:Value} (h:Box4 w g p0 p1 p2 p3) (hb:Below w.heap.size w w'):Box4 w' g p0 p1 p2 p3:=h.belowB hb h.lt
theorem GQ_below {L:List Sq} {i:Nat} {v:Value} {w w':World} (h:GQ L i v w) (hb:Below w.heap.size w w'):GQ L i v w':=by
 unfold GQ at h ⊢
 split
 ·rename_i x hx;rw [hx] at h;exact h
 ·rename_i x hx;rw [hx] at h;exact RatV.below h hb
 ·rename_i x y hx;rw [hx] at h;obtain ⟨p1,p2,p3,e,k⟩:=h;exact ⟨p1,p2,p3,e,k.below hb⟩
 ·rename_i x y hx;rw [hx] at h;exact One4.below h termK hb
 ·rename_i x hx;rw [hx] at h;exact FormV.below h hb
 ·rename_i x hx;rw [hx] at h;exact One4.below h formK hb
 ·rename_i x hx;rw [hx] at h;obtain ⟨b,e,l,k1,k2⟩:=h;exact ⟨b,e,l,k1.below hb,k2.below hb k1.lt⟩
 ·rename_i x hx;rw [hx] at h;obtain ⟨p1,p2,p3,e,k⟩:=h;exact ⟨p1,p2,p3,e,k.below hb⟩
 ·trivial
theorem Box4.alloc (w:World) (p0 p1 p2 p3:Value) (T:Nat):Box4 (w.alloc (.cells #[p0,p1,p2,p3] T)) w.heap.size p0 p1 p2 p3:=by
 refine ⟨?_,?_,?_,?_,fun o=>World.frozen?_alloc_new _ _ _ _,by simp⟩ <;> (rw [World.cell?_alloc_at _ _ _ _ rfl];rfl)
theorem Box4.far {w:World} {g h:Nat} {p0 p1 p2 p3:Value} (hb:Box4 w g p0 p1 p2 p3) (hne:h ≠ g) (o:Nat) (v:Value):Box4 (w.setCell ⟨h,o,none⟩ v) g p0 p1 p2 p3:=
 ⟨(far2 hne).trans hb.c0,(far2 hne).trans hb.c1,(far2 hne).trans hb.c2,(far2 hne).trans hb.c3,fun i=>by simp [World.frozen?_setCell,hb.free],by simpa using hb.lt⟩
theorem Box4.set0 {w:World} {g:Nat} {p0 p1 p2 p3:Value} (h:Box4 w g p0 p1 p2 p3) (v:Value):Box4 (w.setCell ⟨g,0,none⟩ v) g v p1 p2 p3:=by
 refine ⟨World.cell?_setCell_same _ _ _ h.c0,?_,?_,?_,fun i=>by simp [World.frozen?_setCell,h.free],by simpa using h.lt⟩
 ·exact (World.cell?_setCell_other _ _ _ _ (by intro e;cases e)).trans h.c1
 ·exact (World.cell?_setCell_other _ _ _ _ (by intro e;cases e)).trans h.c2
 ·exact (World.cell?_setCell_other _ _ _ _ (by intro e;cases e)).trans h.c3
theorem Box4.grown {w w':World} {g:Nat} {p0 p1 p2 p3 v:Value} (h:Box4 w g p0 p1 p2 p3) (hg:w.grownBy w' v.ownBlock) (hne:v.ownBlock ≠ some g):Box4 w' g p0 p1 p2 p3:=by
 have hb:∀ o,w'.cell? ⟨g,o,none⟩=w.cell? ⟨g,o,none⟩:=fun o=>World.cell?_of_block (hg.block g h.lt (fun e=>hne e.symm))
 have hf:∀ o,w'.frozen? ⟨g,o,none⟩=w.frozen? ⟨g,o,none⟩:=fun o=>World.frozen?_of_block (hg.block g h.lt (fun e=>hne e.symm))
 exact ⟨(hb 0).trans h.c0,(hb 1).trans h.c1,(hb 2).trans h.c2,(hb 3).trans h.c3,fun o=>(hf o).trans (h.free o),Nat.lt_of_lt_of_le h.lt hg.size⟩
theorem NoInt.grown {w w':World} {g:Nat} {v:Value} (h:NoInt w g) (hlt:g < w.heap.size) (hg:w.grownBy w' v.ownBlock) (hne:v.ownBlock ≠ some g):NoInt w' g:=
 fun o x e=>h o x ((World.cell?_of_block (hg.block g hlt (fun e=>hne e.symm))).symm.trans e)
theorem RatC.setCell {w:World} {p1 p2 p3:Value} {q:Rat} (h:RatC w p1 p2 p3 q) {g:Nat} (hg:NoInt w g) (o:Nat) (v:Value):RatC (w.setCell ⟨g,o,none⟩ v) p1 p2 p3 q:=by
 obtain ⟨an,ad,cn,cd,e1,e2,e3,l1,l2,u1,u2⟩:=h.ex;exact ⟨an,ad,cn,cd,e1,e2,e3,l1,l2,u1.setCell hg _ _,u2.setCell hg _ _⟩
theorem own_terms_set {T:TypeId} {w:World} {base:Nat} {v:Value} {L:List (Nat × Rat)} (h:Own4 TermP noI T w base v L) {g:Nat} (hg:NoInt w g) (hne:v.ownBlock ≠ some g) (o:Nat) (u:Value):Own4 TermP noI T (w.setCell ⟨g,o,none⟩ u) base v L:=by
 obtain ⟨xs,ho,he⟩:=h.ex
 refine ⟨⟨xs,ownsRow_setCell_other ho hne u,fun j x hj=>?_⟩,fun k hk i z e=>?_⟩
 ·obtain ⟨p0,p1,p2,p3,h0,h1,h2,h3,e0,hr⟩:=he j x hj;exact ⟨p0,p1,p2,p3,h0,h1,h2,h3,e0,hr.setCell hg o u⟩
 ·have hgk:g ≠ k:=fun e=>hne (by rw [e];exact hk)
  exact h.al k hk i z ((far2 hgk).symm.trans e)
structure PutS (w W:World) (base:Nat) (s:Value) (L:List (Nat × Rat)) (p1 p2 p3 q1 q2 q3:Value) (q:Rat):Prop where
 fb:Box4 W w.heap.size s p1 p2 p3
 cb:Box3 W (w.heap.size+1) q1 q2 q3
 rb:Box4 W (w.heap.size+1+1) (.slice none 0 0) (.bool false) (.slice none 0 0) (.slice none 0 0)
 nf:NoInt W w.heap.size
 nr:NoInt W (w.heap.size+1+1)
 own:Own4 TermP noI 84 W base s L
 far:s.ownBlock ≠ some w.heap.size/\s.ownBlock ≠ some (w.heap.size+1+1)
 rc:RatC W q1 q2 q3 q
 bl:Below base w W
theorem PutS.below {w W W':World} {base:Nat} {s:Value} {L:List (Nat × Rat)} {p1 p2 p3 q1 q2 q3:Value} {q:Rat} (h:PutS w W base s L p1 p2 p3 q1 q2 q3 q) (hb:Below W.heap.size W W') (hbase:base<=W.heap.size):PutS w W' base s L p1 p2 p3 q1 q2 q3 q:=
 ⟨h.fb.below hb,h.cb.below hb,h.rb.below hb,h.nf.below hb h.fb.lt,h.nr.below hb h.rb.lt,h.own.below termK hb,h.far,h.rc.below hb,h.bl.trans (hb.mono hbase)⟩
structure PutR (w W:World) (base:Nat) (s s':Value) (L:List (Nat × Rat)) (p1 p2 p3:Value):Prop where
 fb:Box4 W w.heap.size s p1 p2 p3
 rb:Box4 W (w.heap.size+1+1) (.slice none 0 0) (.bool false) (.slice none 0 0) (.slice none 0 0)
 nf:NoInt W w.heap.size
 nr:NoInt W (w.heap.size+1+1)
 own:Own4 TermP noI 84 W base s' L
 far:s'.ownBlock ≠ some w.heap.size/\s'.ownBlock ≠ some (w.heap.size+1+1)
 bl:Below base w W
theorem PutS.done {w W:World} {base:Nat} {s:Value} {L:List (Nat × Rat)} {p1 p2 p3 q1 q2 q3:Value} {q:Rat} (h:PutS w W base s L p1 p2 p3 q1 q2 q3 q):PutR w W base s s L p1 p2 p3:=⟨h.fb,h.rb,h.nf,h.nr,h.own,h.far,h.bl⟩
theorem PutS.app {w W W':World} {base:Nat} {s s':Value} {L L':List (Nat × Rat)} {p1 p2 p3 q1 q2 q3:Value} {q:Rat} (h:PutS w W base s L p1 p2 p3 q1 q2 q3 q) (ho:Own4 TermP noI 84 W' base s' L') (hg:W.grownBy W' s.ownBlock) (hb:Below base W W') (hn:Next W s s'):
  PutR w W' base s s' L' p1 p2 p3:=by
 refine ⟨h.fb.grown hg h.far.1,h.rb.grown hg h.far.2,h.nf.grown h.fb.lt hg h.far.1,h.nr.grown h.rb.lt hg h.far.2,ho,?_,h.bl.trans hb⟩
 rcases hn with e | ⟨k,e,hk⟩
 ·rw [e];exact h.far
 ·have l1:=h.fb.lt;have l2:=h.rb.lt
  constructor
  ·intro e2;rw [e] at e2;cases e2;omega
  ·intro e2;rw [e] at e2;cases e2;omega
theorem PutR.set {w W:World} {base:Nat} {s s':Value} {L:List (Nat × Rat)} {p1 p2 p3:Value} (h:PutR w W base s s' L p1 p2 p3) (hs:∀ x,s' ≠ .int .u32 x) (hbase:base<=w.heap.size):PutR w (W.setCell ⟨w.heap.size,0,none⟩ s') base s' s' L p1 p2 p3:=
 ⟨h.fb.set0 s',h.rb.far (by omega) _ _,h.nf.setCell _ _ hs,h.nr.far (by omega) _ _,own_terms_set h.own h.nf h.far.1 _ _,h.far,h.bl.setCell (p:=⟨w.heap.size,0,none⟩) hbase _⟩
def PutPost (w:World) (base:Nat) (L:List (Nat × Rat)) (b0:Bool) (an:Option Addr) (nn cn:Nat) (ad:Option Addr) (nd cd:Nat) (e:Ending) (w':World):Prop:=
 ∃ a c,e=.returned (.agg #[.slice a L.length c,.bool b0,.slice an nn cn,.slice ad nd cd])/\Own4 TermP noI 84 w' base (.slice a L.length c) L/\Below base w w'
theorem PutR.post {w W:World} {base:Nat} {a:Option Addr} {n c:Nat} {L:List (Nat × Rat)} {b0:Bool} {an ad:Option Addr} {nn cn nd cd:Nat} {s:Value} (h:PutR w W base s (.slice a n c) L (.bool b0) (.slice an nn cn) (.slice ad nd cd)) (hn:L.length=n) (hbase:base<=w.heap.size):
  PutPost w base L b0 an nn cn ad nd cd (.returned (.agg #[.slice a n c,.bool b0,.slice an nn cn,.slice ad nd cd])) ((((W.setCell ⟨w.heap.size+1+1,0,none⟩ (.slice a n c)).setCell ⟨w.heap.size+1+1,1,none⟩ (.bool b0)).setCell ⟨w.heap.size+1+1,2,none⟩ (.slice an nn cn)).setCell ⟨w.heap.size+1+1,3,none⟩ (.slice ad nd cd)):=by
 subst hn;have n1:=h.nr.setCell 0 (.slice a L.length c) (by simp);have n2:=n1.setCell 1 (.bool b0) (by simp);have n3:=n2.setCell 2 (.slice an nn cn) (by simp);have hg:base<=w.heap.size+1+1:=by omega
 exact ⟨a,c,rfl,own_terms_set (own_terms_set (own_terms_set (own_terms_set h.own h.nr h.far.2 _ _) n1 h.far.2 _ _) n2 h.far.2 _ _) n3 h.far.2 _ _,
  (((h.bl.setCell (p:=⟨w.heap.size+1+1,0,none⟩) hg _).setCell (p:=⟨w.heap.size+1+1,1,none⟩) hg _).setCell (p:=⟨w.heap.size+1+1,2,none⟩) hg _).setCell (p:=⟨w.heap.size+1+1,3,none⟩) hg _⟩
theorem sign_zero {q:Rat}:signZ (ratL q).neg (lval (ratL q).num)=0 ↔ q=0:=by
 have h:lval (ratL q).num=q.num.natAbs:=by
  show lval (limbs q.num.natAbs)=_
  exact lval_limbs _
 unfold signZ;rw [h]
 constructor
 ·intro e
  by_cases hz:q.num.natAbs=0
  ·exact Rat.num_eq_zero.1 (by omega)
  ·rw [if_neg hz] at e
   split at e <;> cases e
 ·intro e;rw [if_pos (by rw [e];rfl)]
theorem lPut {w:World} {base n v:Nat} {a:Option Addr} {c:Nat} {b0:Bool} {an ad:Option Addr} {nn cn nd cd:Nat} {vq:Value} {L:List (Nat × Rat)} {q:Rat} (hown:Own4 TermP noI 84 w base (.slice a n c) L) (hn:L.length=n) (hbase:base<=w.heap.size)
  (hq:RatV w vq (ratL q)) (hql:RatLe (ratL q) 1048576) (hnb:n<=1000000):
  Calls Tryz.prog 135 #[.agg #[.slice a n c,.bool b0,.slice an nn cn,.slice ad nd cd],.int .i64 (v:Int),vq] w (PutPost w base (putT L v q) b0 an nn cn ad nd cd):=by
 obtain ⟨qn,qd,qcn,qcd,rfl,g2,g3,g4,g5⟩:=hq.ex;have hS0:PutS w (((w.alloc (.cells #[.slice a n c,.bool b0,.slice an nn cn,.slice ad nd cd] 53)).alloc (.cells #[.bool (ratL q).neg,.slice qn (ratL q).num.length qcn,.slice qd (ratL q).den.length qcd] 51)).alloc (.cells #[.slice none 0 0,.bool false,.slice none 0 0,.slice none 0 0] 53))
   base (.slice a n c) L (.bool b0) (.slice an nn cn) (.slice ad nd cd) (.bool (ratL q).neg) (.slice qn (ratL q).num.length qcn) (.slice qd (ratL q).den.length qcd) q:=by
  have k1:=Box4.alloc w (.slice a n c) (.bool b0) (.slice an nn cn) (.slice ad nd cd) 53;have m1:=NoInt.alloc w #[.slice a n c,.bool b0,.slice an nn cn,.slice ad nd cd] 53 (by simp);have b1:=blA w (.cells #[.slice a n c,.bool b0,.slice an nn cn,.slice ad nd cd] 53);have s1:(w.alloc (.cells #[.slice a n c,.bool b0,.slice an nn cn,.slice ad nd cd] 53)).heap.size=w.heap.size+1:=by simp
  generalize w.alloc (.cells #[.slice a n c,.bool b0,.slice an nn cn,.slice ad nd cd] 53)=W1 at *;have k2:=Box3.alloc W1 (.bool (ratL q).neg) (.slice qn (ratL q).num.length qcn) (.slice qd (ratL q).den.length qcd) 51;have b2:=blA W1 (.cells #[.bool (ratL q).neg,.slice qn (ratL q).num.length qcn,.slice qd (ratL q).den.length qcd] 51);have s2:(W1.alloc (.cells #[.bool (ratL q).neg,.slice qn (ratL q).num.length qcn,.slice qd (ratL q).den.length qcd] 51)).heap.size=w.heap.size+1+1:=by simp;omega
  generalize W1.alloc (.cells #[.bool (ratL q).neg,.slice qn (ratL q).num.length qcn,.slice qd (ratL q).den.length qcd] 51)=W2 at *;have k3:=Box4.alloc W2 (.slice none 0 0) (.bool false) (.slice none 0 0) (.slice none 0 0) 53;have m3:=NoInt.alloc W2 #[.slice none 0 0,.bool false,.slice none 0 0,.slice none 0 0] 53 (by simp);have b3:=blA W2 (.cells #[.slice none 0 0,.bool false,.slice none 0 0,.slice none 0 0] 53);generalize W2.alloc (.cells #[.slice none 0 0,.bool false,.slice none 0 0,.slice none 0 0] 53)=W3 at *;rw [s1] at k2;rw [s2] at k3 m3;have b23:=b2.trans (b3.mono b2.size);have b13:=b1.trans (b23.mono b1.size)
  refine ⟨k1.below b23,k2.below b3,k3,m1.below b23 k1.lt,m3,hown.below termK b13,⟨fun e=>?_,fun e=>?_⟩,RatC.below ⟨qn,qd,qcn,qcd,rfl,rfl,rfl,g2,g3,g4,g5⟩ b13,b13.mono hbase⟩
  ·have:=(hown.lt e).2;omega
  ·have:=(hown.lt e).2;omega
 obtain ⟨HS0,HN,HQl⟩:=hd3 hS0 hn hql;generalize hLp:putT L v q=L';have HLp:=hid hLp;clear hS0 hown hq g4 g5 hLp
 go_enter Tryz.func135,Tryz.ntmps135
 go_upto_region 1 with fail
 generalize ((w.alloc (.cells #[.slice a n c,.bool b0,.slice an nn cn,.slice ad nd cd] 53)).alloc (.cells #[.bool (ratL q).neg,.slice qn (ratL q).num.length qcn,.slice qd (ratL q).den.length qcd] 51)).alloc (.cells #[.slice none 0 0,.bool false,.slice none 0 0,.slice none 0 0] 53)=W at *;obtain ⟨y0,y1,y2,yf,ylt⟩:=HS0.out.cb;have hle:=HQl.out.num;have HSg:=hid (rSign HS0.out.rc.val (by omega))
 go_wp2_with fail
 refine HSg.out.mono ?_
 rintro e w1 ⟨rfl,hb1⟩;have hb01:base<=W.heap.size:=Nat.le_trans hbase HS0.out.bl.size;have HS1:=hid (HS0.out.below hb1 hb01);clear hb1 HSg HS0 y0 y1 y2 yf ylt
 by_cases hz:q=0
 ·have hs:signZ (ratL q).neg (lval (ratL q).num)=0:=sign_zero.2 hz;rw [hs];obtain rfl:L'=L:=by rw [<- HLp.out];unfold putT;rw [if_pos hz]
  have HP:=hid HS1.out.done;obtain ⟨x0,x1,x2,x3,xf,xlt⟩:=HP.out.fb;obtain ⟨r0,r1,r2,r3,rf,rlt⟩:=HP.out.rb;clear hz hs;go_wp2;exact bodyPost_ret (v:=.agg #[.slice a n c,.bool b0,.slice an nn cn,.slice ad nd cd]) (by simp [results,Tryz.results135,go_sem,r0,r1,r2,r3]) rfl (HP.out.post HN.out hbase)
 ·have hs:(signZ (ratL q).neg (lval (ratL q).num) != 0)=true:=by rw [bne_iff_ne];exact fun e=>hz (sign_zero.1 e)
  obtain rfl:L'=L++[(v,q)]:=by rw [<- HLp.out];unfold putT;rw [if_neg hz]
  have HCn:Hid (∀ W',Below w1.heap.size w1 W'->Calls Tryz.prog 121 #[.agg #[.bool (ratL q).neg,.slice qn (ratL q).num.length qcn,.slice qd (ratL q).den.length qcd]] W' (RetR W' (ratL q))):=fun W' hb=>by
   have h:=rCanon (HS1.out.rc.val.below hb) (by have:=HQl.out.num;omega) (by have:=HQl.out.den;omega);rw [canonL_ratL,ratOf_ratL] at h;exact h
  have hlt1:base<=w1.heap.size:=Nat.le_trans hbase HS1.out.bl.size;clear hz hle
  go_upto_region 2 with fail
  clear hs
  refine wp_region_slots_tail 7 (by kernel_rfl) (by kernel_rfl) (by kernel_rfl) (by kernel_rfl) (by decide) (From w1.heap.size w1) (fun w w'=>Below w.heap.size w w') (GQ [.val (.pointer (some ⟨w.heap.size,0,none⟩)),.val (.slice a n c),.val (.int .i64 (v:Int)),.val (.agg #[.bool (ratL q).neg,.slice qn (ratL q).num.length qcn,.slice qd (ratL q).den.length qcd]),.rat q,.trm v q,.one v q]) (fun i v w w' h hb=>GQ_below h hb) (From.start (Nat.le_refl _)) ?_ ?_
  ·intro ops;simp only [List.take_succ_cons,List.take_zero,Shows]
   refine ⟨?v0,?v1,?v2,?v3,?_,?_,?_,trivial⟩
   all_goals (intro g W hR hL;have hB:=hR.base;have HS2:=hid (HS1.out.below hR.be hlt1);obtain ⟨x0,x1,x2,x3,xf,xlt⟩:=HS2.out.fb;obtain ⟨y0,y1,y2,yf,ylt⟩:=HS2.out.cb;simp only [Laid,Region.binds,forall_const,Bool.false_eq_true,false_implies,GQ,List.getElem?_cons_zero,List.getElem?_cons_succ] at hL;simp [fillFrom,Act.put])
   case v0|v1|v2|v3=>
    try simp only [hL]
    clear hL;have HR:=hid hR;clear hR;go_wp2;exact ⟨_,rfl,HR.out,Below.refl _ _,rfl⟩
   ·try simp only [hL]
    clear hL;have HR:=hid hR;clear hR;have HCt:=hid (HCn.out W HR.out.be)
    go_wp2_with fail
    refine HCt.out.mono ?_
    rintro e w1 ⟨v1,rfl,kv,kb⟩;obtain ⟨KV,KB⟩:=hd2 kv kb;clear kv kb HCt;go_wp2;exact ⟨_,rfl,⟨Nat.le_trans HR.out.base KB.out.size,HR.out.be.trans (KB.out.mono HR.out.base)⟩,KB.out,KV.out⟩
   ·generalize g 2=y2 at hL ⊢;generalize g 4=y4 at hL ⊢;obtain ⟨rfl,H4,_⟩:=hL;obtain ⟨K4,HR⟩:=hd2 H4 hR;clear hR H4;obtain ⟨an',ad',cn',cd',rfl,l1,l2,u1,u2⟩:=K4.out.ex;have HRC:=hid (show RatC W _ _ _ _ from ⟨an',ad',cn',cd',rfl,rfl,rfl,l1,l2,u1,u2⟩);clear u1 u2 K4;go_wp2;exact ⟨_,rfl,HR.out,Below.refl _ _,_,_,_,rfl,HRC.out⟩
   ·generalize g 5=y5 at hL ⊢;obtain ⟨H5,_⟩:=hL;obtain ⟨K5,HR⟩:=hd2 H5 hR;clear hR H5;obtain ⟨r1,r2,r3,rfl,hrc⟩:=K5.out;obtain ⟨HOne,HBa⟩:=hd2 (One4.alloc termK (show TermP W _ r1 r2 r3 (v,q) from ⟨rfl,hrc⟩) 84) ((Below.refl W.heap.size W).alloc (Nat.le_refl _) (.cells #[.int .i64 ((v:Nat):Int),r1,r2,r3] 84));obtain ⟨an',ad',cn',cd',rfl,rfl,rfl,l1,l2,u1,u2⟩:=hrc.ex;clear hrc u1 u2 K5;go_wp2;exact ⟨⟨Nat.le_trans HR.out.base HBa.out.size,HR.out.be.trans (HBa.out.mono HR.out.base)⟩,HBa.out,HOne.out⟩
  ·intro ops g W hR hL;have hB:=hR.base;have J1:=hL.1.1.1.1.1.2;have J6:=hL.2;simp only [GQ,List.getElem?_cons_zero,List.getElem?_cons_succ] at J1 J6;have HS2:=hid (HS1.out.below hR.be hlt1);obtain ⟨x0,x1,x2,x3,xf,xlt⟩:=HS2.out.fb;obtain ⟨y0,y1,y2,yf,ylt⟩:=HS2.out.cb;clear hL;simp only [List.take_succ_cons,List.take_zero,List.drop_succ_cons,List.drop_zero];simp [fillFrom,Act.put];generalize g 1=y1 at J1 ⊢;obtain rfl:=J1;generalize g 6=y6 at J6 ⊢;have HR:=hid hR;clear hR;have HJ:=hid J6;clear J6 x0 x1 x2 x3 xf xlt y0 y1 y2 yf ylt
   go_upto_region 3 with (at_builtin;refine wpList_app4 (T:=84) termK (.int .i64 0) (.bool false) (.slice none 0 0) (.slice none 0 0) 64 (by intro u hu;simp at hu;rcases hu with rfl | rfl | rfl <;> rfl) rfl (.tmp 11) (.tmp 16) 47 rfl base Tryz.underlying47 (by kernel_rfl) (by omega) (.slice a n c) n L HN.out rfl HS2.out.own y6 (v,q) HJ.out rfl (by omega) (Nat.le_trans hbase HS2.out.bl.size) ?_;intro b3 k3 w3 hown hk3 hg hbe hnx;have HP:=hid (HS2.out.app hown hg hbe hnx);obtain ⟨x0,x1,x2,x3,xf,xlt⟩:=HP.out.fb;clear hown hg hbe hnx)
   have HQ:=hid (HP.out.set (by simp) hbase);generalize w3.setCell ⟨w.heap.size,0,none⟩ (.slice b3 (n+1) k3)=w4 at *;clear HP x0 x1 x2 x3 xf xlt;obtain ⟨x0,x1,x2,x3,xf,xlt⟩:=HQ.out.fb;obtain ⟨r0,r1,r2,r3,rf,rlt⟩:=HQ.out.rb;go_wp2;exact bodyPost_ret (v:=.agg #[.slice b3 (n+1) k3,.bool b0,.slice an nn cn,.slice ad nd cd]) (by simp [results,Tryz.results135,go_sem,r0,r1,r2,r3]) rfl (HQ.out.post (by rw [List.length_append,HN.out];rfl) hbase)
end Go.Proofs.YtfgmmghmmfmdgaaGreat
