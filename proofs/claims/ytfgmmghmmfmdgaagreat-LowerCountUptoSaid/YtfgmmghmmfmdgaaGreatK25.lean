/-
  Contracts of the functions that the statement reaches: EvC, EvP, EvQ, EvH, EvJ, EvK, EvD, EvE, EvF, EvG, EvL, EvR, EvU, EvT, EvV, EvW, EvZ, PvB, EvX, EvY, PvC, PvD, LwA.
-/
import Derived.Test.YtfgmmghmmfmdgaaGreatK22
import Derived.Test.YtfgmmghmmfmdgaaGreatK24
set_option linter.all false
set_option maxRecDepth 100000
set_option maxHeartbeats 3200000
namespace Go.Proofs.YtfgmmghmmfmdgaaGreat
open Go.RowKit
open Go.Lib (hid)
def iotaZ (n:Nat):List Int:=(List.range n).map fun k:Nat=>(k:Int)
theorem iotaZ_len (n:Nat):(iotaZ n).length=n:=by simp [iotaZ]
theorem iotaZ_at {n k:Nat} (h:k < n):(iotaZ n).getD k 0=(k:Int):=by
 rw [List.getD_eq_getElem?_getD,iotaZ,List.getElem?_map,List.getElem?_range h];rfl
def partL {α:Type} (l:List α) (lo n:Nat):List α:=(l.drop lo).take n
theorem partL_len {α:Type} {l:List α} {lo n:Nat} (h:lo+n<=l.length):(partL l lo n).length=n:=by simp [partL];omega
theorem partL_mem {α:Type} {l:List α} {lo n:Nat} {x:α} (h:x ∈ partL l lo n):x ∈ l:=List.mem_of_mem_drop (List.mem_of_mem_take h)
theorem partL_at {α:Type} {l:List α} {lo n j:Nat} (hj:j < n):(partL l lo n)[j]? =l[lo+j]? :=by
 unfold partL;rw [List.getElem?_take,if_pos hj,List.getElem?_drop]
def denseAt (bs ws x:List Rat) (r:Nat):Rat:=sumQ (bs.getD r 0) (partL ws (r * x.length) x.length) 0 (iotaZ x.length) x
def denseQ (R:Nat) (bs ws x:List Rat):List Rat:=(List.range R).map (denseAt bs ws x)
def convAt (bs ws:List Rat) (n:Nat) (win:List (List Int)) (x:List Rat) (o i:Nat):Rat:=sumQ (bs.getD o 0) (partL ws (o * n) n) 0 (win.getD i []) x
def convQ (O:Nat) (bs ws:List Rat) (n:Nat) (win:List (List Int)) (x:List Rat):List Rat:=(List.range O).flatMap fun o=>(List.range win.length).map (convAt bs ws n win x o)
def poolAt (f:List Rat->Rat) (n:Nat) (win:List (List Int)) (x:List Rat) (ch i:Nat):Rat:=f (valsQ (partL (win.getD i []) (ch * n) n) x)
def poolQ (f:List Rat->Rat) (C n:Nat) (win:List (List Int)) (x:List Rat):List Rat:=(List.range C).flatMap fun ch=>(List.range win.length).map (poolAt f n win x ch)
def reluQ (x:List Rat):List Rat:=x.map fun q=>maxQ q 0
def plusQ (x y:List Rat):List Rat:=(List.range x.length).map fun k=>x.getD k 0+y.getD k 0
def flatQ (f:Nat->Nat->Rat) (T k i:Nat):List Rat:=((List.range k).flatMap fun o=>(List.range T).map (f o))++(List.range i).map (f k)
theorem flatQ_len (f:Nat->Nat->Rat) (T k i:Nat):((flatQ f T k i).map ratL).length=k * T+i:=by
 have:∀ k,((List.range k).flatMap fun o=>(List.range T).map (f o)).length=k * T:=by
  intro k
  induction k with
  | zero=>simp
  | succ k ih=>rw [List.range_succ,List.flatMap_append,List.length_append,ih,Nat.succ_mul];simp
 simp only [flatQ,List.length_map,List.length_append,this,List.length_range]
theorem convQ_flat (O:Nat) (bs ws:List Rat) (n:Nat) (win:List (List Int)) (x:List Rat):convQ O bs ws n win x=flatQ (convAt bs ws n win x) win.length O 0:=by simp [flatQ,convQ]
theorem poolQ_flat (g:List Rat->Rat) (C n:Nat) (win:List (List Int)) (x:List Rat):poolQ g C n win x=flatQ (poolAt g n win x) win.length C 0:=by simp [flatQ,poolQ]
theorem ratL_zeroE:ratL 0=⟨false,[],[]⟩:=by simp [ratL,limbs_zero]
structure Bd (D B:Nat) (q:Rat):Prop where
 pos:0 < D
 ex:∃ n:Int,q=mkRat n D/\n.natAbs<=B * D
theorem Bd.zero {D B:Nat} (h:0 < D):Bd D B 0:=⟨h,0,by simp [Rat.zero_mkRat],by simp⟩
theorem Bd.mono {D B B':Nat} {q:Rat} (h:Bd D B q) (hb:B<=B'):Bd D B' q:=by
 obtain ⟨n,e,hn⟩:=h.ex;exact ⟨h.pos,n,e,Nat.le_trans hn (Nat.mul_le_mul_right _ hb)⟩
theorem Bd.bump {D B:Nat} {q:Rat} (h:Bd D B q) {k:Nat} (hk:0 < k):Bd (D * k) B q:=by
 obtain ⟨n,e,hn⟩:=h.ex
 refine ⟨Nat.mul_pos h.pos hk,n * k,?_,?_⟩
 ·rw [e,Rat.mkRat_mul_right (by omega)]
 ·rw [Int.natAbs_mul,Int.natAbs_natCast, <- Nat.mul_assoc];exact Nat.mul_le_mul_right _ hn
theorem Bd.add {D B C:Nat} {p q:Rat} (h:Bd D B p) (g:Bd D C q):Bd D (B+C) (p+q):=by
 obtain ⟨n,e,hn⟩:=h.ex;obtain ⟨m,e',hm⟩:=g.ex;have hD:=h.pos
 refine ⟨hD,n+m,?_,?_⟩
 ·rw [e,e',Rat.mkRat_add_mkRat _ _ (by omega) (by omega), <- Int.add_mul,Rat.mkRat_mul_right (by omega)]
 ·have:=Int.natAbs_add_le n m;rw [Nat.add_mul];omega
theorem Bd.mul {D E B C:Nat} {p q:Rat} (h:Bd D B p) (g:Bd E C q):Bd (D * E) (B * C) (p * q):=by
 obtain ⟨n,e,hn⟩:=h.ex;obtain ⟨m,e',hm⟩:=g.ex
 refine ⟨Nat.mul_pos h.pos g.pos,n * m,?_,?_⟩
 ·rw [e,e',Rat.mkRat_mul_mkRat]
 ·rw [Int.natAbs_mul];have:=Nat.mul_le_mul hn hm;rw [show B * C * (D * E)=B * D * (C * E) by ac_rfl];exact this
theorem Bd.neg {D B:Nat} {q:Rat} (h:Bd D B q):Bd D B (-q):=by
 obtain ⟨n,e,hn⟩:=h.ex;exact ⟨h.pos, -n,by rw [e,Rat.neg_mkRat],by rw [Int.natAbs_neg];exact hn⟩
theorem Bd.sub {D B C:Nat} {p q:Rat} (h:Bd D B p) (g:Bd D C q):Bd D (B+C) (p - q):=by
 rw [Rat.sub_eq_add_neg];exact h.add g.neg
theorem Bd.le {D B k:Nat} {q:Rat} (h:Bd D B q) (hk:B * D+D < 4294967296^k):RatLe (ratL q) k:=by
 obtain ⟨n,e,hn⟩:=h.ex;have hD:=h.pos;have h1:q.num.natAbs<=n.natAbs:=by
  rw [e,Rat.num_mkRat]
  split
  ·simp
  ·rw [Int.natAbs_ediv_of_dvd]
   ·exact Nat.div_le_self _ _
   ·exact Int.ofNat_dvd_left.2 (Nat.gcd_dvd_right _ _)
 have h2:q.den<=D:=by
  rw [e,Rat.den_mkRat]
  split
  ·omega
  ·exact Nat.div_le_self _ _
 constructor
 ·exact limbs_len_le (by omega)
 ·show (if q.den=1 then [] else limbs q.den).length<=k
  split
  ·exact Nat.zero_le _
  ·exact limbs_len_le (by omega)
def BdL (D B:Nat) (l:List Rat):Prop:=∀ q ∈ l,Bd D B q
theorem BdL.at {D B:Nat} {l:List Rat} (h:BdL D B l) (hD:0 < D) (k:Nat):Bd D B (l.getD k 0):=by
 rw [List.getD_eq_getElem?_getD]
 by_cases hk:k < l.length
 ·rw [List.getElem?_eq_getElem hk];exact h _ (List.getElem_mem _)
 ·rw [List.getElem?_eq_none (by omega)];exact Bd.zero hD
theorem BdL.part {D B:Nat} {l:List Rat} (h:BdL D B l) (lo n:Nat):BdL D B (partL l lo n):=fun q hq=>h q (partL_mem hq)
theorem BdL.nil (D B:Nat):BdL D B []:=fun q hq=>by cases hq
theorem Bd.divN {D B n:Nat} {q:Rat} (h:Bd D (n * B) q) (hn:0 < n):Bd (D * n) B (q / ((n:Int):Rat)):=by
 obtain ⟨m,e,hm⟩:=h.ex;have hD:=h.pos
 refine ⟨Nat.mul_pos hD hn,m,?_,?_⟩
 ·have e1:((n:Int):Rat) ≠ 0:=by
   intro h0;have:(n:Int)=0:=by exact_mod_cast h0
   omega
  have e2:mkRat m D=mkRat m (D * n) * ((n:Int):Rat):=by
   rw [show ((n:Int):Rat)=mkRat (n:Int) 1 by simp [Rat.mkRat_one],Rat.mkRat_mul_mkRat,Nat.mul_one,Rat.mkRat_mul_right (by omega)]
  rw [e,e2,Rat.mul_div_cancel e1]
 ·rw [show B * (D * n)=n * B * D by ac_rfl];exact hm
theorem BdL.small {C:Nat}:∀ (l:List Rat),(∀ q ∈ l,q.den<=4294967296/\q.num.natAbs<=C)->∃ W,0 < W/\W<=4294967296^l.length/\BdL W C l
 | [],_=>⟨1,by omega,by simp,BdL.nil _ _⟩
 | q::r,h=>by
  obtain ⟨W,h1,h2,h3⟩:=BdL.small r (fun p hp=>h p (by simp [hp]));obtain ⟨g1,g2⟩:=h q (by simp);have hq:Bd q.den C q:=⟨q.den_pos,q.num,(Rat.mkRat_self q).symm,Nat.le_trans g2 (Nat.le_mul_of_pos_right _ q.den_pos)⟩
  refine ⟨W * q.den,Nat.mul_pos h1 q.den_pos,?_,?_⟩
  ·rw [List.length_cons,Nat.pow_succ];exact Nat.mul_le_mul h2 g1
  ·intro p hp
   rcases List.mem_cons.1 hp with rfl | hp
   ·rw [Nat.mul_comm];exact hq.bump h1
   ·exact (h3 p hp).bump q.den_pos
theorem Win.mem_one {q:Win} {ix:List Int} (h:ix ∈ q.all):∃ r c,r < q.R/\c < q.Q/\ix=q.one r c:=by
 simp only [Win.all,Win.rowOf,List.mem_flatMap,List.mem_map,List.mem_range] at h;obtain ⟨r,hr,c,hc,rfl⟩:=h;exact ⟨r,c,hr,hc,rfl⟩
theorem Win.mem_at {q:Win} {r c:Nat} {i:Int} (h:i ∈ q.one r c):∃ ch a b,ch < q.C/\a < q.kh/\b < q.kw/\i=q.at r c ch a b:=by
 simp only [Win.one,Win.chan,Win.line,List.mem_flatMap,List.mem_map,List.mem_range] at h;obtain ⟨ch,hch,a,ha,b,hb,rfl⟩:=h;exact ⟨ch,a,b,hch,ha,hb,rfl⟩
theorem Win.all_one_len' {q:Win}:∀ ix ∈ q.all,ix.length=q.C * (q.kh * q.kw):=by
 intro ix h;obtain ⟨r,c,_,_,rfl⟩:=q.mem_one h;exact q.one_len r c
theorem Win.Ok.all_lt {q:Win} (h:q.Ok):∀ ix ∈ q.all,∀ i ∈ ix,i < ((q.C * q.H * q.W:Nat):Int):=by
 intro ix hx i hi;obtain ⟨r,c,_,_,rfl⟩:=q.mem_one hx;obtain ⟨ch,a,b,hch,_,_,rfl⟩:=q.mem_at hi;have:=(h.at_bd (r:=r) (c:=c) (i:=a) (k:=b) hch).2
 simpa using this
theorem Win.Ok.all_nn {q:Win} (h:q.Ok) (hp:q.p=0):∀ ix ∈ q.all,∀ i ∈ ix,0<=i:=by
 intro ix hx i hi;obtain ⟨r,c,hr,hc,rfl⟩:=q.mem_one hx;obtain ⟨ch,a,b,hch,ha,hb,rfl⟩:=q.mem_at hi;rw [(h.bare hp hr hc (ch:=ch) ha hb).1];have r0:(0:Int)<=(r:Int) * q.s:=Int.mul_nonneg (by omega) (by omega);have c0:(0:Int)<=(c:Int) * q.s:=Int.mul_nonneg (by omega) (by omega);have h0:(0:Int)<=(ch:Int) * q.H:=Int.mul_nonneg (by omega) (by omega);have h1:(0:Int)<=((ch:Int) * q.H+((r:Int) * q.s+a)) * q.W:=Int.mul_nonneg (by omega) (by omega);omega
inductive FitL (l:LayL) (s:List Int):Prop
 | dense (R:Nat) (hk:l.kind=1) (ho:l.out=(R:Int)) (h1:1<=R) (h2:R<=16384) (hb:l.bias.length=R) (hw:l.weights.length=R * (sizeL s).toNat)
 | conv (q:Win) (O:Nat) (hk:l.kind=2) (hq:q.Ok) (ht:q.total<=262144) (hs:s=[(q.C:Int),(q.H:Int),(q.W:Int)]) (e1:l.kh=(q.kh:Int)) (e2:l.kw=(q.kw:Int)) (e3:l.stride=(q.s:Int)) (e4:l.pad=(q.p:Int))
   (ho:l.out=(O:Int)) (h1:1<=O) (hb:l.bias.length=O) (hw:l.weights.length=O * (q.C * q.kh * q.kw)) (hwl:windowsL s l.kh l.kw l.stride l.pad=(q.all,(q.R:Int),(q.Q:Int),0)) (hz:O * (q.R * q.Q)<=16384)
 | pool (q:Win) (hk:l.kind=3 ∨ l.kind=4) (hq:q.Ok) (ht:q.total<=262144) (hs:s=[(q.C:Int),(q.H:Int),(q.W:Int)]) (e1:l.kh=(q.kh:Int)) (e2:l.kw=(q.kw:Int)) (e3:l.stride=(q.s:Int)) (e4:l.pad=0) (hp:q.p=0) (hwl:windowsL s l.kh l.kw l.stride 0=(q.all,(q.R:Int),(q.Q:Int),0))
   (hz:q.C * (q.R * q.Q)<=16384)
 | keep (hk:l.kind=5 ∨ l.kind=6)
 | add (hk:l.kind=7)
def wq (l:LayL):List Rat:=l.weights.map ratOf
def bq (l:LayL):List Rat:=l.bias.map ratOf
def layQ (l:LayL) (s:List Int) (x y:List Rat):List Rat:=
 if l.kind=1 then denseQ l.out.toNat (bq l) (wq l) x
 else if l.kind=2 then convQ l.out.toNat (bq l) (wq l) ((s.getD 0 0).toNat * l.kh.toNat * l.kw.toNat) (windowsL s l.kh l.kw l.stride l.pad).1 x
 else if l.kind=3 then poolQ maxL (s.getD 0 0).toNat (l.kh.toNat * l.kw.toNat) (windowsL s l.kh l.kw l.stride 0).1 x
 else if l.kind=4 then poolQ avgL (s.getD 0 0).toNat (l.kh.toNat * l.kw.toNat) (windowsL s l.kh l.kw l.stride 0).1 x
 else if l.kind=5 then reluQ x
 else if l.kind=7 then plusQ x y
 else x
theorem winFit {s:List Int} {kh kw st p:Int} (h:(windowsL s kh kw st p).2.2.2=0):∃ q:Win,q.Ok/\q.total<=262144/\s=[(q.C:Int),(q.H:Int),(q.W:Int)]/\kh=q.kh/\kw=q.kw/\st=q.s/\p=q.p/\windowsL s kh kw st p=(q.all,(q.R:Int),(q.Q:Int),0):=by
 cases h1:argBad s kh kw st p with
 | true=>rw [windowsL_arg h1] at h;simp at h
 | false=>
  cases h2:shapeBad s kh kw p with
  | true=>rw [windowsL_shape h1 h2] at h;simp at h
  | false=>
   by_cases h3:262144 < (winOf s kh kw st p).total
   ·rw [windowsL_many h1 h2 h3] at h;simp at h
   ·obtain ⟨q,hq,hw,e0,e1,e2,e3,e4⟩:=winOf_ok h1 h2;rw [hw] at h3
    refine ⟨q,hq,by omega,e0,e1,e2,e3,e4,?_⟩
    rw [windowsL_ok h1 h2 (by rw [hw];exact h3),hw]
theorem sizeL_nn {s:List Int} (h:validL s=true):∃ n:Nat,sizeL s=n/\1<=n/\n<=16384:=by
 have:=validL_size h;exact ⟨(sizeL s).toNat,by omega,by omega,by omega⟩
theorem validL_three {a b c:Nat} (h:validL [(a:Int),(b:Int),(c:Int)]=true):a * (b * c)<=16384:=by
 have h1:=(validL_size h).2;rw [sizeL,if_pos h] at h1;simp only [prodFrom,Int.one_mul] at h1;have:(((a * b * c:Nat)):Int)<=16384:=by simpa using h1
 rw [<- Nat.mul_assoc];omega
theorem fit_of {input:List Int} {S:List (List Int)} {l:LayL} (h:(outSL input S l).2=0):FitL l (currL input S)/\numsB l=true/\
  (l.kind=7-> -1<=l.frm/\l.frm < S.length/\(if 0<=l.frm then S.getD l.frm.toNat [] else input)=currL input S):=by
 rcases outSL_cases input S l with ⟨h1,_,_⟩ | ⟨hc,⟨h1,_,_⟩ | ⟨_,_,hr,hv⟩⟩
 ·omega
 ·omega
 ·simp only [Bool.and_eq_true] at hc;obtain ⟨⟨_,_,hl⟩,_⟩:=hc;unfold layOK at hl;rw [Bool.and_eq_true] at hl;obtain ⟨hl,hn⟩:=hl;unfold condL at hl;unfold rawL at hr hv
  by_cases k1:l.kind=1
  ·rw [if_pos k1] at hl hr hv;simp only [outB,wgtB,Bool.and_eq_true,decide_eq_true_eq] at hl hr;obtain ⟨⟨o1,o2⟩,⟨b1,b2,b3,b4⟩,_⟩:=hl
   refine ⟨.dense l.out.toNat k1 (by omega) (by omega) (by omega) (by omega) ?_,hn,fun h=>by omega⟩
   have e:l.out=(l.out.toNat:Int):=by omega
   by_cases hs:0<=sizeL (currL input S)
   ·have e2:sizeL (currL input S)=((sizeL (currL input S)).toNat:Int):=by omega
    rw [e,e2] at hr;have:((l.weights.length:Nat):Int)=((l.out.toNat * (sizeL (currL input S)).toNat:Nat):Int):=by rw [hr];simp
    exact Int.ofNat_inj.1 this
   ·exfalso
    have:l.out * sizeL (currL input S) < 0:=Int.mul_neg_of_pos_of_neg (by omega) (by omega);omega
  rw [if_neg k1] at hl hr hv
  by_cases k2:l.kind=2
  ·rw [if_pos k2] at hl hr hv;simp only [outB,wgtB,kerB,Bool.and_eq_true,decide_eq_true_eq] at hl hr;obtain ⟨⟨o1,o2⟩,_,_,_,_,⟨b1,_⟩,_⟩:=hl;obtain ⟨hw0,hwe⟩:=hr;obtain ⟨q,hq,ht,e0,e1,e2,e3,e4,hwl⟩:=winFit hw0;unfold winsL at hv;rw [hwl] at hv;have eo:l.out=(l.out.toNat:Int):=by omega
   rw [eo] at hv
   refine ⟨.conv q l.out.toNat k2 hq ht e0 e1 e2 e3 e4 eo (by omega) (by omega) ?_ hwl (validL_three hv),hn,fun h=>by omega⟩
   rw [e0,e1,e2,eo] at hwe;have:((l.weights.length:Nat):Int)=((l.out.toNat * (q.C * q.kh * q.kw):Nat):Int):=by
    rw [hwe];simp only [List.getD_cons_zero,Int.natCast_mul,Int.mul_assoc]
   omega
  rw [if_neg k2] at hl hr hv
  by_cases k3:l.kind=3 ∨ l.kind=4
  ·rw [if_pos k3] at hl hr hv;simp only [kerB,Bool.and_eq_true,decide_eq_true_eq] at hl hr;obtain ⟨_,⟨_,_,hp⟩,_⟩:=hl;obtain ⟨q,hq,ht,e0,e1,e2,e3,e4,hwl⟩:=winFit hr;unfold winsL at hv;rw [hwl] at hv;rw [e0] at hv;exact ⟨.pool q k3 hq ht e0 e1 e2 e3 hp (by omega) (by rw [hp] at hwl;exact hwl) (validL_three hv),hn,fun h=>by omega⟩
  rw [if_neg k3] at hl
  by_cases k5:l.kind=5 ∨ l.kind=6
  ·exact ⟨.keep k5,hn,fun h=>by omega⟩
  rw [if_neg k5] at hl
  by_cases k7:l.kind=7
  ·rw [if_pos k7] at hl;simp only [Bool.and_eq_true,decide_eq_true_eq] at hl;rw [if_neg k3,if_neg (by omega),if_pos k7] at hr;exact ⟨.add k7,hn,fun _=>⟨hl.1,hl.2.1,by simpa [sameL] using hr⟩⟩
  ·rw [if_neg k7] at hl;cases hl
theorem flatQ_len' (f:Nat->Nat->Rat) (T k i:Nat):(flatQ f T k i).length=k * T+i:=by have:=flatQ_len f T k i;rwa [List.length_map] at this
theorem layQ_len {input:List Int} {S:List (List Int)} {l:LayL} {x y:List Rat} (h:(outSL input S l).2=0) (hx:(x.length:Int)=sizeL (currL input S)):((layQ l (currL input S) x y).length:Int)=sizeL (outSL input S l).1:=by
 have hv:=outSL_valid h
 rcases outSL_cases input S l with ⟨h1,_,_⟩ | ⟨_,⟨h1,_,_⟩ | ⟨_,h2,_,_⟩⟩
 ·omega
 ·omega
 by_cases hk:5<=l.kind
 ·rw [outSL_keeps h hk, <- hx];unfold layQ;rw [if_neg (by omega),if_neg (by omega),if_neg (by omega),if_neg (by omega)]
  split
  ·simp [reluQ]
  ·split
   ·simp [plusQ]
   ·rfl
 ·obtain ⟨hf,_,_⟩:=fit_of h;rw [h2] at hv ⊢;unfold rawL at hv ⊢
  cases hf with
  | dense R hk ho h1 h2 hb hw=>
   rw [if_pos hk] at hv ⊢;unfold layQ;rw [if_pos hk,sizeL,if_pos hv];simp only [prodFrom,Int.one_mul,denseQ,List.length_map,List.length_range];omega
  | conv q O hk hq ht hs e1 e2 e3 e4 ho h1 hb hw hwl hz=>
   rw [if_neg (by omega),if_pos hk] at hv ⊢;unfold winsL at hv ⊢;rw [hwl] at hv ⊢;unfold layQ;rw [if_neg (by omega),if_pos hk,hwl,sizeL,if_pos hv,convQ_flat];rw [flatQ_len',q.all_len,ho];simp only [prodFrom,Int.one_mul];simp [Int.mul_assoc]
  | pool q hk hq ht hs e1 e2 e3 e4 hp hwl hz=>
   rw [if_neg (by omega),if_neg (by omega),if_pos hk] at hv ⊢;unfold winsL at hv ⊢;rw [e4,hwl] at hv ⊢;have hC:(currL input S).getD 0 0=(q.C:Int):=by rw [hs];rfl
   have key:∀ f:List Rat->Rat,((poolQ f ((currL input S).getD 0 0).toNat (l.kh.toNat * l.kw.toNat) q.all x).length:Int)=sizeL [(currL input S).getD 0 0,(q.R:Int),(q.Q:Int)]:=by
    intro f;rw [sizeL,if_pos hv,poolQ_flat];rw [flatQ_len',q.all_len,hC];simp only [prodFrom,Int.one_mul];simp [Int.mul_assoc]
   unfold layQ;rw [if_neg (by omega),if_neg (by omega),hwl]
   rcases hk with hk | hk
   ·rw [if_pos hk];exact key _
   ·rw [if_neg (by omega),if_pos hk];exact key _
  | keep hk=>omega
  | add hk=>omega
def currQ (x:List Rat) (Y:List (List Rat)):List Rat:=Y.getLast?.getD x
def fromQ (x:List Rat) (Y:List (List Rat)) (f:Int):List Rat:=if 0<=f then Y.getD f.toNat [] else x
def WQ:Nat:=4294967296^240 * 4294967296^240
theorem one_le_WQ:1<=WQ:=Nat.mul_pos (Nat.one_le_pow _ _ (by omega)) (Nat.one_le_pow _ _ (by omega))
theorem pow_wide (M a n:Nat) (hM:1<=M) (hn:n<=a+a):M^n<=M^a * M^a:=by rw [<- Nat.pow_add];exact Nat.pow_le_pow_right hM hn
theorem le_WQ {W n:Nat} (h:W<=4294967296^n) (hn:n<=480):W<=WQ:=Nat.le_trans h (pow_wide 4294967296 240 n (by omega) hn)
theorem pow_join (M a b c:Nat) (h:a+b=c):M^a * M^b=M^c:=by rw [<- Nat.pow_add,h]
theorem WQ_pow:∃ p:Nat,p=480/\WQ=4294967296^p:=⟨480,rfl,pow_join 4294967296 240 240 480 rfl⟩
structure SmallL (l:LayL):Prop where
 num:∀ q ∈ wq l++bq l,q.den<=4294967296/\q.num.natAbs<=18446744073709551616
 len:(wq l++bq l).length<=480
theorem grow_le {n B:Nat} (hn:n<=262144) (hB:1<=B):18446744073709551616+n * (18446744073709551616 * B)<=9671406556917033397649408 * B:=by
 have:n * (18446744073709551616 * B)<=262144 * (18446744073709551616 * B):=Nat.mul_le_mul_right _ hn;omega
theorem Bd.small {D B M N k:Nat} {q:Rat} (h:Bd D B q) (hD:D<=M) (hB:B<=N) (hk:N * M+M < 4294967296^k):RatLe (ratL q) k:=
 h.le (Nat.lt_of_le_of_lt (Nat.add_le_add (Nat.mul_le_mul hB hD) hD) hk)
theorem validR_back:∀ {L:List RatL},L.all validR=true->L=(L.map ratOf).map ratL
 | [],_=>rfl
 | x::r,h=>by
  rw [List.all_cons,Bool.and_eq_true] at h;have h1:=h.1;unfold validR at h1;rw [decide_eq_true_eq,canonL_ratL] at h1;rw [List.map_cons,List.map_cons, <- validR_back h.2, <- h1]
def Room (D B:Nat):Prop:=(9671406556917033397649408 * B) * (D * WQ)+D * WQ < 4294967296^524285
theorem RatV.parts {w:World} {an ad:Option Addr} {cn cd:Nat} {x:RatL} (h:RatV w (.agg #[.bool x.neg,.slice an x.num.length cn,.slice ad x.den.length cd]) x):x.num.length<=cn/\x.den.length<=cd/\U32s w an x.num/\U32s w ad x.den:=by
 obtain ⟨an',ad',cn',cd',e,h2,h3,h4,h5⟩:=h.ex;cases e;exact ⟨h2,h3,h4,h5⟩
theorem run_storeF {P:Program} {w:World} (a:Addr) (m:Mode) (f:Fn) (x y:Array Value):(store a (.func f x y) m).run P w=stored P w a (.func f x y) m:=run_store P w a _ m rfl
attribute [local go_sem] run_storeF
def smallR (x:RatL):Bool:=decide (x.num.length<=2) && decide (x.den.length<=1)
def littleL (L:List RatL):Bool:=L.all smallR && L.all validR
theorem allR_take {L:List RatL} {j:Nat} {x:RatL} (hx:L[j]? =some x):(L.take (j+1)).all smallR=((L.take j).all smallR && smallR x):=by
 rw [take_succ_at hx,List.all_append];simp
def okLay (l:LayL):Bool:=decide (l.weights.length<=60) && (decide (l.bias.length<=60) && (littleL l.weights && littleL l.bias))
def fairE (m:ModL) (L:List RatL):Bool:=decide (m.layers.length<=8) && (decide (sizeL m.input<=30) && (decide (L.length<=30) && (decide (m.input.length<=8) && (m.layers.all okLay && littleL L))))
theorem allO_take {L:List LayL} {j:Nat} {x:LayL} (hx:L[j]? =some x):(L.take (j+1)).all okLay=((L.take j).all okLay && okLay x):=by
 rw [take_succ_at hx,List.all_append];simp
end Go.Proofs.YtfgmmghmmfmdgaaGreat
