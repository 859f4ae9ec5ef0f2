/-
  Contracts of the functions that the statement reaches: Limb, LimbB, LimbC, LimbD, LimbE, RatL, LimbF.
-/
import Derived.Lib.Hide
set_option linter.all false
set_option maxRecDepth 100000
set_option maxHeartbeats 3200000
namespace Go.Proofs.YtfgmmghmmfmdgaaGreat
open Go.Lib (hid)
def valN (f:Nat->Nat):Nat->Nat
 | 0=>0
 | n+1=>valN f n+f n * 4294967296^n
def dig (l:List Nat) (i:Nat):Nat:=l.getD i 0
def lval (l:List Nat):Nat:=valN (dig l) l.length
def Lim (l:List Nat):Prop:=∀ d ∈ l,d < 4294967296
theorem bpow_pos (n:Nat):0 < 4294967296^n:=Nat.pow_pos (by omega)
theorem bpow_succ (n:Nat):4294967296^(n+1)=4294967296^n * 4294967296:=Nat.pow_succ _ _
theorem valN_congr {f g:Nat->Nat} {n:Nat} (h:∀ i,i < n->f i=g i):valN f n=valN g n:=by
 induction n with
 | zero=>rfl
 | succ n ih=>simp only [valN];rw [ih (fun i hi=>h i (by omega)),h n (by omega)]
theorem valN_zero {f:Nat->Nat} {n:Nat} (h:∀ i,i < n->f i=0):valN f n=0:=by
 induction n with
 | zero=>rfl
 | succ n ih=>simp only [valN];rw [ih (fun i hi=>h i (by omega)),h n (by omega)];simp
theorem valN_more {f:Nat->Nat} {n m:Nat} (hnm:n<=m) (h:∀ i,n<=i->i < m->f i=0):valN f m=valN f n:=by
 induction m with
 | zero => have : n = 0 := by omega
           rw [this]
 | succ m ih=>
  by_cases he:n=m+1
  ·rw [he]
  ·simp only [valN];rw [ih (by omega) (fun i h1 h2=>h i h1 (by omega)),h m (by omega) (by omega)];simp
theorem valN_lt {f:Nat->Nat} {n:Nat} (h:∀ i,i < n->f i < 4294967296):valN f n < 4294967296^n:=by
 induction n with
 | zero=>simp [valN]
 | succ n ih=>
  simp only [valN,bpow_succ];have h1:=ih (fun i hi=>h i (by omega));have h2:f n * 4294967296^n<=4294967295 * 4294967296^n:=Nat.mul_le_mul_right _ (by have:=h n (by omega);omega);omega
theorem valN_split (f:Nat->Nat) (k n:Nat):valN f (k+n)=valN f k+valN (fun i=>f (k+i)) n * 4294967296^k:=by
 induction n with
 | zero=>simp [valN]
 | succ n ih=>
  rw [<- Nat.add_assoc];simp only [valN];rw [ih,Nat.add_mul,Nat.pow_add,Nat.mul_assoc,Nat.add_assoc,Nat.mul_comm (4294967296^n)]
theorem dig_lt {l:List Nat} (h:Lim l) (i:Nat):dig l i < 4294967296:=by
 unfold dig;rw [List.getD_eq_getElem?_getD]
 cases hi:l[i]? with
 | none=>simp
 | some d=>exact h d (List.mem_of_getElem? hi)
theorem dig_out {l:List Nat} {i:Nat} (h:l.length<=i):dig l i=0:=by
 unfold dig;rw [List.getD_eq_getElem?_getD,List.getElem?_eq_none h];rfl
theorem dig_at {l:List Nat} {i d:Nat} (h:l[i]? =some d):dig l i=d:=by
 unfold dig;rw [List.getD_eq_getElem?_getD,h];rfl
theorem at_dig {l:List Nat} {i:Nat} (h:i < l.length):l[i]? =some (dig l i):=by
 unfold dig;rw [List.getD_eq_getElem?_getD,List.getElem?_eq_getElem h];rfl
theorem lval_lt {l:List Nat} (h:Lim l):lval l < 4294967296^l.length:=valN_lt (fun i _=>dig_lt h i)
theorem lval_nil:lval []=0:=rfl
theorem dig_map {f:Nat->Nat} {n i:Nat} (h:i < n):dig ((List.range n).map f) i=f i:=by
 unfold dig;simp [h]
theorem lval_map (f:Nat->Nat) (n:Nat):lval ((List.range n).map f)=valN f n:=by
 unfold lval;rw [List.length_map,List.length_range];exact valN_congr (fun i hi=>dig_map hi)
theorem dig_cons (d:Nat) (l:List Nat) (i:Nat):dig (d::l) (i+1)=dig l i:=by unfold dig;simp
theorem lval_cons (d:Nat) (l:List Nat):lval (d::l)=d+4294967296 * lval l:=by
 unfold lval;rw [List.length_cons,Nat.add_comm,valN_split];simp only [valN,Nat.pow_zero,Nat.mul_one,Nat.zero_add,Nat.pow_one];rw [show dig (d::l) 0=d from rfl,Nat.mul_comm]
 congr 2
 exact valN_congr (fun i _=>by rw [Nat.add_comm];exact dig_cons d l i)
theorem Lim.cons {d:Nat} {l:List Nat} (h:Lim (d::l)):d < 4294967296/\Lim l:=⟨h d (by simp),fun x hx=>h x (by simp [hx])⟩
def limbs (n:Nat):List Nat:=if n=0 then [] else n % 4294967296::limbs (n / 4294967296)
termination_by n
decreasing_by exact Nat.div_lt_self (by omega) (by omega)
theorem limbs_zero:limbs 0=[]:=by unfold limbs;simp
theorem limbs_pos {n:Nat} (h:n ≠ 0):limbs n=n % 4294967296::limbs (n / 4294967296):=by rw [limbs,if_neg h]
theorem limbs_cons {d v:Nat} (hd:d < 4294967296) (h:d ≠ 0 ∨ v ≠ 0):limbs (d+4294967296 * v)=d::limbs v:=by
 rw [limbs_pos (by omega)]
 congr 1
 ·omega
 ·congr 1;omega
theorem lval_limbs (n:Nat):lval (limbs n)=n:=by
 induction n using Nat.strongRecOn with
 | _ n ih=>
  by_cases h:n=0
  ·subst h;rw [limbs_zero];rfl
  ·rw [limbs_pos h,lval_cons,ih _ (Nat.div_lt_self (by omega) (by omega))];omega
theorem lim_limbs (n:Nat):Lim (limbs n):=by
 induction n using Nat.strongRecOn with
 | _ n ih=>
  by_cases h:n=0
  ·subst h;rw [limbs_zero];intro d hd;simp at hd
  ·rw [limbs_pos h];intro d hd
   rcases List.mem_cons.1 hd with rfl | hd
   ·omega
   ·exact ih _ (Nat.div_lt_self (by omega) (by omega)) d hd
def Canon (l:List Nat):Prop:=l=[] ∨ dig l (l.length - 1) ≠ 0
instance (l:List Nat):Decidable (Canon l):=by unfold Canon;infer_instance
theorem canon_limbs {l:List Nat} (hl:Lim l) (h:Canon l):limbs (lval l)=l:=by
 induction l with
 | nil=>exact limbs_zero
 | cons d r ih=>
  have hd:=hl.cons;have hr:Canon r:=by
   by_cases hn:r=[]
   ·exact .inl hn
   ·right
    rcases h with h | h
    ·cases h
    ·have hp:0 < r.length:=List.length_pos_iff.2 hn;have e:(d::r).length - 1=(r.length - 1)+1:=by simp;omega
     rw [e,dig_cons] at h;exact h
  rw [lval_cons,limbs_cons hd.1,ih hd.2 hr]
  by_cases hn:r=[]
  ·subst hn
   rcases h with h | h
   ·cases h
   ·left;exact h
  ·right
   intro h0
   apply hn
   rw [<- ih hd.2 hr,h0,limbs_zero]
theorem limbs_canon (n:Nat):Canon (limbs n):=by
 induction n using Nat.strongRecOn with
 | _ n ih=>
  by_cases h:n=0
  ·subst h;exact .inl limbs_zero
  ·right
   rw [limbs_pos h]
   rcases ih _ (Nat.div_lt_self (n:=n) (k:=4294967296) (by omega) (by omega)) with h0 | h0
   ·rw [h0];show n % 4294967296 ≠ 0
    have h1:n / 4294967296=0:=by rw [<- lval_limbs (n / 4294967296),h0];rfl
    omega
   ·by_cases hn:limbs (n / 4294967296)=[]
    ·rw [hn] at h0;simp [dig] at h0
    ·have hp:0 < (limbs (n / 4294967296)).length:=List.length_pos_iff.2 hn;have e:(n % 4294967296::limbs (n / 4294967296)).length - 1=((limbs (n / 4294967296)).length - 1)+1:=by simp;omega
     rw [e,dig_cons];exact h0
theorem limbs_nil {n:Nat}:limbs n=[] ↔ n=0:=⟨fun h=>by rw [<- lval_limbs n,h];rfl,fun h=>by rw [h,limbs_zero]⟩
theorem take_limbs {l:List Nat} {n:Nat} (hl:Lim l) (hn:n<=l.length) (h0:∀ i,n<=i->i < l.length->dig l i=0) (h1:n=0 ∨ dig l (n - 1) ≠ 0):l.take n=limbs (lval l):=by
 have ht:(l.take n).length=n:=by simp;omega
 have hd:∀ i,i < n->dig (l.take n) i=dig l i:=by
  intro i hi;unfold dig;simp only [List.getD_eq_getElem?_getD];rw [List.getElem?_take_of_lt hi]
 have hv:lval (l.take n)=lval l:=by
  unfold lval;rw [ht,valN_more hn h0];exact valN_congr hd
 rw [<- hv,canon_limbs (fun d hd=>hl d (List.mem_of_mem_take hd))]
 rcases h1 with h1 | h1
 ·left;apply List.eq_nil_of_length_eq_zero;omega
 ·by_cases hz:n=0
  ·left;apply List.eq_nil_of_length_eq_zero;omega
  ·right;rw [ht,hd _ (by omega)];exact h1
theorem limbs_len_le {n k:Nat} (h:n < 4294967296^k):(limbs n).length<=k:=by
 rcases Nat.lt_or_ge k (limbs n).length with hlt | hge
 ·exfalso
  rcases limbs_canon n with h0 | h0
  ·rw [h0] at hlt;simp at hlt
  ·have e:=lval_limbs n;unfold lval at e;obtain ⟨m,hm⟩:∃ m,(limbs n).length=m+1:=⟨(limbs n).length - 1,by omega⟩
   rw [hm] at e h0;simp only [valN,Nat.add_sub_cancel] at e h0;have h2:4294967296^m<=dig (limbs n) m * 4294967296^m:=Nat.le_mul_of_pos_left _ (by omega);have h3:4294967296^k<=4294967296^m:=Nat.pow_le_pow_right (by omega) (by omega);omega
 ·exact hge
theorem limbs_len_lt (n:Nat):n < 4294967296^(limbs n).length:=by
 have:=lval_lt (lim_limbs n)
 rwa [lval_limbs] at this
theorem limbs_len_mono {a b:Nat} (h:a<=b):(limbs a).length<=(limbs b).length:=limbs_len_le (Nat.lt_of_le_of_lt h (limbs_len_lt b))
theorem limbs_len_of_lval {l:List Nat} (h:Lim l):(limbs (lval l)).length<=l.length:=limbs_len_le (lval_lt h)
theorem lin2 {x c y c' z P:Nat} (h:x+4294967296 * c'=c+y+z):x * P+c' * (P * 4294967296)=c * P+y * P+z * P:=by
 have e:x * P+c' * (P * 4294967296)=(x+4294967296 * c') * P:=by
  rw [Nat.add_mul,Nat.mul_comm 4294967296 c',Nat.mul_assoc c',Nat.mul_comm P]
 rw [e,h,Nat.add_mul,Nat.add_mul]
/-! ### Comparing -/
def cmpN (x y:Nat):Int:=if x < y then -1 else if y < x then 1 else 0
theorem valN_lt_at {f g:Nat->Nat} {n i:Nat} (hf:∀ j,j < n->f j < 4294967296) (hi:i < n) (hs:∀ j,i < j->j < n->f j=g j) (h:f i < g i):valN f n < valN g n:=by
 obtain ⟨m,rfl⟩:∃ m,n=i+1+m:=⟨n - (i+1),by omega⟩
 rw [valN_split f (i+1) m,valN_split g (i+1) m,valN_congr (n:=m) (f:=fun j=>f (i+1+j)) (g:=fun j=>g (i+1+j)) (fun j hj=>hs _ (by omega) (by omega))];have h1:valN f i < 4294967296^i:=valN_lt (fun j hj=>hf j (by omega));have h2:(f i+1) * 4294967296^i<=g i * 4294967296^i:=Nat.mul_le_mul_right _ h;rw [Nat.succ_mul] at h2;simp only [valN];omega
theorem lval_lt_len {a b:List Nat} (ha:Lim a) (hb:Canon b) (h:a.length < b.length):lval a < lval b:=by
 rcases hb with rfl | hb
 ·simp at h
 ·have h1:=lval_lt ha;obtain ⟨m,hm⟩:∃ m,b.length=m+1:=⟨b.length - 1,by omega⟩
  have h2:4294967296^a.length<=4294967296^m:=Nat.pow_le_pow_right (by omega) (by omega);unfold lval at *;rw [hm] at hb ⊢;simp only [valN,Nat.add_sub_cancel] at *;have h3:4294967296^m<=dig b m * 4294967296^m:=Nat.le_mul_of_pos_left _ (by omega);omega
/-! ### Adding -/
def carryA (f g:Nat->Nat):Nat->Nat
 | 0=>0
 | n+1=>(carryA f g n+f n+g n) / 4294967296
def digA (f g:Nat->Nat) (n:Nat):Nat:=(carryA f g n+f n+g n) % 4294967296
theorem addV (f g:Nat->Nat) (n:Nat):valN (digA f g) n+carryA f g n * 4294967296^n=valN f n+valN g n:=by
 induction n with
 | zero=>simp [valN,carryA]
 | succ n ih=>
  simp only [valN,bpow_succ];have:=lin2 (P:=4294967296^n) (show digA f g n+4294967296 * carryA f g (n+1)=carryA f g n+f n+g n from by simp only [carryA,digA];omega);omega
theorem digA_lt (f g:Nat->Nat) (n:Nat):digA f g n < 4294967296:=Nat.mod_lt _ (by omega)
theorem carryA_le {f g:Nat->Nat} {n:Nat} (hf:∀ i,f i < 4294967296) (hg:∀ i,g i < 4294967296):carryA f g n<=1:=by
 induction n with
 | zero=>simp [carryA]
 | succ n ih=>have:=hf n;have:=hg n;simp only [carryA];omega
/-! ### Subtracting -/
def borB (f g:Nat->Nat):Nat->Nat
 | 0=>0
 | n+1=>if f n < borB f g n+g n then 1 else 0
def digS (f g:Nat->Nat) (n:Nat):Nat:=f n+4294967296 * borB f g (n+1) - (borB f g n+g n)
theorem borB_le (f g:Nat->Nat) (n:Nat):borB f g n<=1:=by
 cases n with
 | zero=>simp [borB]
 | succ n=>simp only [borB];split <;> omega
theorem digS_eq {f g:Nat->Nat} {n:Nat} (hg:g n < 4294967296):digS f g n+borB f g n+g n=f n+4294967296 * borB f g (n+1):=by
 have:=borB_le f g n;simp only [digS,borB]
 split <;> omega
theorem digS_lt {f g:Nat->Nat} {n:Nat} (hf:f n < 4294967296) (hg:g n < 4294967296):digS f g n < 4294967296:=by
 have:=borB_le f g n;simp only [digS,borB]
 split <;> omega
theorem subV {f g:Nat->Nat} (hg:∀ i,g i < 4294967296) (n:Nat):valN (digS f g) n+valN g n=valN f n+borB f g n * 4294967296^n:=by
 induction n with
 | zero=>simp [valN,borB]
 | succ n ih=>
  simp only [valN,bpow_succ];have e:=digS_eq (f:=f) (hg n);have h1:(digS f g n+borB f g n+g n) * 4294967296^n=(f n+4294967296 * borB f g (n+1)) * 4294967296^n:=by rw [e]
  rw [Nat.add_mul,Nat.add_mul,Nat.add_mul,Nat.mul_assoc 4294967296,Nat.mul_comm 4294967296] at h1;rw [Nat.mul_assoc (borB f g (n+1))] at h1;omega
theorem sub_fits {f g:Nat->Nat} {n:Nat} (hf:∀ i,f i < 4294967296) (hg:∀ i,g i < 4294967296) (h:valN g n<=valN f n):valN (digS f g) n=valN f n - valN g n/\borB f g n=0:=by
 have h1:=subV hg n (f:=f);have h2:valN (digS f g) n < 4294967296^n:=valN_lt (fun i _=>digS_lt (hf i) (hg i));have h3:=borB_le f g n;have h4:borB f g n=0:=by
  rcases Nat.lt_or_ge (borB f g n) 1 with h5 | h5
  ·omega
  ·have:borB f g n=1:=by omega
   rw [this] at h1;omega
 rw [h4] at h1;exact ⟨by omega,h4⟩
/-! ### Multiplying by a limb and adding -/
def mulC (x:Nat) (y o:Nat->Nat):Nat->Nat
 | 0=>0
 | n+1=>(mulC x y o n+x * y n+o n) / 4294967296
def mulD (x:Nat) (y o:Nat->Nat) (n:Nat):Nat:=(mulC x y o n+x * y n+o n) % 4294967296
theorem mulD_lt (x:Nat) (y o:Nat->Nat) (n:Nat):mulD x y o n < 4294967296:=Nat.mod_lt _ (by omega)
theorem mul_bd {x y:Nat} (hx:x < 4294967296) (hy:y < 4294967296):x * y<=18446744065119617025:=
 Nat.le_trans (Nat.mul_le_mul (show x<=4294967295 by omega) (show y<=4294967295 by omega)) (by decide)
theorem mulC_lt {x:Nat} {y o:Nat->Nat} (hx:x < 4294967296) (hy:∀ i,y i < 4294967296) (ho:∀ i,o i < 4294967296) (n:Nat):mulC x y o n < 4294967296:=by
 induction n with
 | zero=>simp [mulC]
 | succ n ih=>
  have h1:=mul_bd hx (hy n);have h2:=ho n;simp only [mulC];omega
theorem mulV (x:Nat) (y o:Nat->Nat) (n:Nat):valN (mulD x y o) n+mulC x y o n * 4294967296^n=x * valN y n+valN o n:=by
 induction n with
 | zero=>simp [valN,mulC]
 | succ n ih=>
  simp only [valN,bpow_succ];have:=lin2 (P:=4294967296^n) (show mulD x y o n+4294967296 * mulC x y o (n+1)=mulC x y o n+x * y n+o n from by simp only [mulC,mulD];omega);rw [Nat.mul_add, <- Nat.mul_assoc x];omega
def mulRow (f:Nat->Nat) (x:Nat) (y:Nat->Nat) (i m:Nat):Nat->Nat:=fun j=>
 if j < i then f j else if j < i+m then mulD x y (fun k=>f (i+k)) (j - i) else if j=i+m then mulC x y (fun k=>f (i+k)) m else f j
theorem mulRow_val (f:Nat->Nat) (x:Nat) (y:Nat->Nat) (i m:Nat):valN (mulRow f x y i m) (i+m+1)=valN f (i+m)+x * valN y m * 4294967296^i:=by
 rw [Nat.add_assoc,valN_split,valN_congr (n:=i) (f:=mulRow f x y i m) (g:=f) (fun j hj=>by unfold mulRow;rw [if_pos hj])];have e:valN (fun k=>mulRow f x y i m (i+k)) (m+1)=x * valN y m+valN (fun k=>f (i+k)) m:=by
  simp only [valN];rw [valN_congr (n:=m) (f:=fun k=>mulRow f x y i m (i+k)) (g:=mulD x y (fun k=>f (i+k))) (fun k hk=>by unfold mulRow;rw [if_neg (by omega),if_pos (by omega),Nat.add_sub_cancel_left])];have:mulRow f x y i m (i+m)=mulC x y (fun k=>f (i+k)) m:=by unfold mulRow;rw [if_neg (by omega),if_neg (by omega),if_pos rfl]
  rw [this];exact mulV x y _ m
 rw [e,Nat.add_mul,valN_split f i m];omega
/-! ### From the last limb to the first -/
theorem horner {V q:Nat->Nat} {n:Nat} (h:∀ i,i < n->V i=q i+4294967296 * V (i+1)):V 0=valN q n+4294967296^n * V n:=by
 induction n with
 | zero=>simp [valN]
 | succ n ih=>
  rw [ih (fun i hi=>h i (by omega)),h n (by omega)];simp only [valN,bpow_succ];rw [Nat.mul_add,Nat.mul_comm (4294967296^n) (q n),Nat.mul_assoc,Nat.mul_left_comm (4294967296^n)];rw [Nat.mul_left_comm 4294967296];omega
def high (l:List Nat) (i:Nat):Nat:=lval (l.drop i)
theorem high_zero (l:List Nat):high l 0=lval l:=by simp [high]
theorem high_end {l:List Nat} {i:Nat} (h:l.length<=i):high l i=0:=by simp [high,List.drop_of_length_le h,lval_nil]
theorem high_step {l:List Nat} {i:Nat} (h:i < l.length):high l i=dig l i+4294967296 * high l (i+1):=by
 unfold high;rw [List.drop_eq_getElem_cons h,lval_cons]
 congr 1
 exact (dig_at (List.getElem?_eq_getElem h)).symm
theorem high_dig {l:List Nat} (hl:Lim l) (i:Nat):high l i % 4294967296=dig l i:=by
 rcases Nat.lt_or_ge i l.length with h | h
 ·rw [high_step h];have:=dig_lt hl i;omega
 ·rw [high_end h,dig_out h]
/-! ### Dividing by a limb -/
theorem short_step {l:List Nat} {d i:Nat} (hd:0 < d) (h:i < l.length):
  high l i / d=(high l (i+1) % d * 4294967296+dig l i) / d+4294967296 * (high l (i+1) / d)/\high l i % d=(high l (i+1) % d * 4294967296+dig l i) % d:=by
 rw [high_step h];generalize high l (i+1)=H;generalize dig l i=a;have e:a+4294967296 * H=(H % d * 4294967296+a)+d * (4294967296 * (H / d)):=by
  have h1:=Nat.div_add_mod H d;have h2:d * (4294967296 * (H / d))=4294967296 * (d * (H / d)):=by rw [Nat.mul_left_comm]
  rw [h2];generalize d * (H / d)=Z at *;omega
 rw [e];exact ⟨by rw [Nat.add_mul_div_left _ _ hd],by rw [Nat.add_mul_mod_self_left]⟩
theorem short_lt {l:List Nat} {d i:Nat} (hl:Lim l) (hd:0 < d):(high l (i+1) % d * 4294967296+dig l i) / d < 4294967296:=by
 have h1:=Nat.mod_lt (high l (i+1)) hd;have h2:=dig_lt hl i;rw [Nat.div_lt_iff_lt_mul hd];have:(high l (i+1) % d+1) * 4294967296<=d * 4294967296:=Nat.mul_le_mul_right _ h1;rw [Nat.succ_mul] at this;rw [Nat.mul_comm 4294967296];omega
/-! ### Shifting to the right by less than a limb -/
theorem shr_step {l:List Nat} {k i:Nat} (hl:Lim l) (hk:k < 32) (h:i < l.length):
  high l i / 2^k=(dig l i+dig l (i+1) * 4294967296) / 2^k % 4294967296+4294967296 * (high l (i+1) / 2^k):=by
 rw [high_step h];have hp:0 < 2^k:=Nat.two_pow_pos k;have hB:(4294967296:Nat)=2^k * 2^(32 - k):=by rw [<- Nat.pow_add,show k+(32 - k)=32 by omega]
 have hd:=high_dig hl (i+1);generalize high l (i+1)=H at *;rw [<- hd];have ha:=dig_lt hl i;generalize dig l i=a at *;have e1:(a+4294967296 * H) / 2^k=a / 2^k+2^(32 - k) * H:=by
  rw [show 4294967296 * H=2^k * (2^(32 - k) * H) by rw [<- Nat.mul_assoc, <- hB],Nat.add_mul_div_left _ _ hp]
 have e2:(a+H % 4294967296 * 4294967296) / 2^k=a / 2^k+2^(32 - k) * (H % 4294967296):=by
  rw [show H % 4294967296 * 4294967296=2^k * (2^(32 - k) * (H % 4294967296)) by rw [<- Nat.mul_assoc, <- hB,Nat.mul_comm],Nat.add_mul_div_left _ _ hp]
 rw [e1,e2];have hmod:H % 4294967296 % 2^k=H % 2^k:=Nat.mod_mod_of_dvd _ ⟨2^(32 - k),hB⟩;have spl:∀ x:Nat,2^(32 - k) * x=4294967296 * (x / 2^k)+2^(32 - k) * (x % 2^k):=by
  intro x
  conv=>lhs;rw [<- Nat.div_add_mod x (2^k),Nat.mul_add, <- Nat.mul_assoc,Nat.mul_comm (2^(32 - k)), <- hB]
 have h1:=spl H;have h2:=spl (H % 4294967296);rw [hmod] at h2;have h3:a / 2^k < 2^(32 - k):=Nat.div_lt_of_lt_mul (by rw [<- hB];exact ha);have h4:2^(32 - k) * (H % 2^k+1)<=2^(32 - k) * 2^k:=Nat.mul_le_mul_left _ (Nat.mod_lt _ hp);rw [Nat.mul_comm _ (2^k), <- hB,Nat.mul_add,Nat.mul_one] at h4;rw [h1,h2];generalize a / 2^k=u at *;generalize 2^(32 - k) * (H % 2^k)=v at *;generalize H / 2^k=y at *;generalize H % 4294967296 / 2^k=z at *;omega
theorem shr_all {l:List Nat} {k:Nat} (hl:Lim l) (hk:k < 32):valN (fun i=>(dig l i+dig l (i+1) * 4294967296) / 2^k % 4294967296) l.length=lval l / 2^k:=by
 have h:=horner (V:=fun i=>high l i / 2^k) (n:=l.length) (fun i hi=>shr_step hl hk hi);simp only [high_zero,high_end (Nat.le_refl l.length),Nat.zero_div,Nat.mul_zero,Nat.add_zero] at h;exact h.symm
theorem short_all {l:List Nat} {d:Nat} (hd:0 < d):valN (fun i=>(high l (i+1) % d * 4294967296+dig l i) / d) l.length=lval l / d:=by
 have h:=horner (V:=fun i=>high l i / d) (n:=l.length) (fun i hi=>(short_step hd hi).1);simp only [high_zero,high_end (Nat.le_refl l.length),Nat.zero_div,Nat.mul_zero,Nat.add_zero] at h;exact h.symm
/-! ### Shifting to the left by less than a limb -/
def shlC (f:Nat->Nat) (k:Nat):Nat->Nat
 | 0=>0
 | n+1=>f n * 2^k / 4294967296
def shlD (f:Nat->Nat) (k n:Nat):Nat:=f n * 2^k % 4294967296+shlC f k n
theorem shlC_lt {f:Nat->Nat} {k:Nat} (hf:∀ i,f i < 4294967296) (n:Nat):shlC f k n < 2^k:=by
 cases n with
 | zero=>exact Nat.two_pow_pos k
 | succ n=>simp only [shlC];rw [Nat.div_lt_iff_lt_mul (by omega),Nat.mul_comm];exact Nat.mul_lt_mul_of_pos_left (hf n) (Nat.two_pow_pos k)
theorem shlLow {a k:Nat} (hk:k < 32):a * 2^k % 4294967296=a % 2^(32 - k) * 2^k:=by
 have hB:(4294967296:Nat)=2^(32 - k) * 2^k:=by rw [<- Nat.pow_add,show 32 - k+k=32 by omega]
 rw [hB,Nat.mul_mod_mul_right]
theorem shlD_lt {f:Nat->Nat} {k:Nat} (hf:∀ i,f i < 4294967296) (hk:k < 32) (n:Nat):shlD f k n < 4294967296:=by
 have hB:(4294967296:Nat)=2^(32 - k) * 2^k:=by rw [<- Nat.pow_add,show 32 - k+k=32 by omega]
 have h1:=shlC_lt hf n (k:=k);have h2:(f n % 2^(32 - k)+1) * 2^k<=2^(32 - k) * 2^k:=Nat.mul_le_mul_right _ (Nat.mod_lt _ (Nat.two_pow_pos _));rw [Nat.add_mul,Nat.one_mul, <- hB] at h2;unfold shlD;rw [shlLow hk];omega
theorem shlV (f:Nat->Nat) (k n:Nat):valN (shlD f k) n+shlC f k n * 4294967296^n=valN f n * 2^k:=by
 induction n with
 | zero=>simp [valN,shlC]
 | succ n ih=>
  simp only [valN,bpow_succ];have h1:=lin2 (P:=4294967296^n) (show shlD f k n+4294967296 * shlC f k (n+1)=shlC f k n+f n * 2^k+0 from by simp only [shlC,shlD];omega);rw [Nat.add_mul, <- ih,Nat.mul_right_comm (f n)];omega
/-! ### The estimate -/
theorem knuth_safe {U V P t w q:Nat} (hU:U < (t+1) * P) (hV:w * P<=V) (hq:t < q * w):U < q * V:=by
 have h1:(t+1) * P<=q * w * P:=Nat.mul_le_mul_right _ hq;have h2:q * w * P<=q * V:=by rw [Nat.mul_assoc];exact Nat.mul_le_mul_left _ hV
 omega
theorem knuth_close {U V P t w q:Nat} (hU:t * P<=U) (hV:V < (w+1) * P) (hq:q * w<=t) (hqP:q * P<=V):q * V<=U+V:=by
 have h1:q * V<=q * ((w+1) * P):=Nat.mul_le_mul_left _ (Nat.le_of_lt hV);have h2:q * ((w+1) * P)=q * w * P+q * P:=by rw [Nat.add_mul,Nat.one_mul,Nat.mul_add,Nat.mul_assoc]
 have h3:q * w * P<=t * P:=Nat.mul_le_mul_right _ hq;omega
structure Knuth (u v:Nat->Nat) (n:Nat):Prop where
 n2:2<=n
 ul:∀ i,u i < 4294967296
 vl:∀ i,v i < 4294967296
 norm:2147483648<=v (n - 1)
 lt:valN u (n+1) < valN v n * 4294967296
section
variable {u v:Nat->Nat} {n:Nat}
def topU (u:Nat->Nat) (n:Nat):Nat:=u n * 4294967296+u (n - 1)
theorem Knuth.parts (h:Knuth u v n):∃ ul vl P:Nat,ul < P/\vl < P/\0 < P/\4294967296^(n - 1)=4294967296 * P/\valN u (n+1)=ul+(topU u n * 4294967296+u (n - 2)) * P/\valN v n=vl+(v (n - 1) * 4294967296+v (n - 2)) * P:=by
 obtain ⟨m,rfl⟩:∃ m,n=m+2:=⟨n - 2,by have:=h.n2;omega⟩
 refine ⟨valN u m,valN v m,4294967296^m,valN_lt (fun i _=>h.ul i),valN_lt (fun i _=>h.vl i),bpow_pos m,?_,?_,?_⟩
 ·show 4294967296^(m+1)=_
  rw [bpow_succ,Nat.mul_comm]
 ·unfold topU;show valN u (m+1+1+1)=valN u m+((u (m+2) * 4294967296+u (m+1)) * 4294967296+u m) * 4294967296^m
  simp only [valN,bpow_succ];generalize 4294967296^m=P;have e:(u (m+2) * 4294967296+u (m+1)) * 4294967296 * P=u (m+2) * (P * 4294967296 * 4294967296)+u (m+1) * (P * 4294967296):=by
   rw [Nat.mul_assoc,Nat.mul_comm 4294967296 P,Nat.add_mul,Nat.mul_assoc (u (m+2)) 4294967296,Nat.mul_comm 4294967296 (P * 4294967296)]
  rw [Nat.add_mul,e];omega
 ·show valN v (m+1+1)=valN v m+(v (m+1) * 4294967296+v m) * 4294967296^m
  simp only [valN,bpow_succ];generalize 4294967296^m=P;rw [Nat.add_mul,Nat.mul_assoc _ 4294967296 P,Nat.mul_comm 4294967296 P];omega
theorem Knuth.pos (h:Knuth u v n):0 < valN v n:=by
 obtain ⟨ul,vl,P,h1,h2,h3,h4,h5,h6⟩:=h.parts;have h7:1 * P<=(v (n - 1) * 4294967296+v (n - 2)) * P:=Nat.mul_le_mul_right _ (by have:=h.norm;omega);omega
theorem Knuth.quo_lt (h:Knuth u v n):valN u (n+1) / valN v n < 4294967296:=by
 rw [Nat.div_lt_iff_lt_mul h.pos,Nat.mul_comm];exact h.lt
theorem Knuth.start (h:Knuth u v n):valN u (n+1) / valN v n<=topU u n / v (n - 1)/\topU u n / v (n - 1)<=4294967297:=by
 obtain ⟨ul,vl,P,h1,h2,h3,h4,h5,h6⟩:=h.parts;have hv:=h.norm
 constructor
 ·rw [Nat.le_div_iff_mul_le (by omega)];have hq:=Nat.div_mul_le_self (valN u (n+1)) (valN v n);generalize valN u (n+1) / valN v n=Q at *;have g1:v (n - 1) * (4294967296 * P)<=valN v n:=by
   rw [h6,Nat.add_mul,Nat.mul_assoc];omega
  have g2:Q * v (n - 1) * (4294967296 * P)<=Q * valN v n:=by rw [Nat.mul_assoc];exact Nat.mul_le_mul_left _ g1
  have hu2:=h.ul (n - 2);have g3:valN u (n+1) < (topU u n+1) * (4294967296 * P):=by
   rw [h5,Nat.add_mul,Nat.add_mul,Nat.one_mul,Nat.mul_assoc];have:(u (n - 2)+1) * P<=4294967296 * P:=Nat.mul_le_mul_right _ hu2;rw [Nat.add_mul,Nat.one_mul] at this;omega
  have g4:Q * v (n - 1) * (4294967296 * P) < (topU u n+1) * (4294967296 * P):=by omega
  have:=Nat.lt_of_mul_lt_mul_right g4;omega
 ·have hlt:=h.lt;have hvl:=h.vl (n - 2);have hun1:=h.ul (n - 1);have g1:u n<=v (n - 1):=by
   have e1:u n * (4294967296 * (4294967296 * P))<=valN u (n+1):=by
    rw [h5];unfold topU;rw [Nat.add_mul,Nat.mul_assoc _ 4294967296 P,Nat.add_mul (u n * 4294967296),Nat.mul_assoc (u n)];omega
   have e2:valN v n < (v (n - 1)+1) * (4294967296 * P):=by
    rw [h6,Nat.add_mul,Nat.mul_assoc,Nat.add_mul,Nat.one_mul];have:(v (n - 2)+1) * P<=4294967296 * P:=Nat.mul_le_mul_right _ hvl;rw [Nat.add_mul,Nat.one_mul] at this;omega
   have e3:valN v n * 4294967296<=(v (n - 1)+1) * (4294967296 * P) * 4294967296:=Nat.mul_le_mul_right _ (Nat.le_of_lt e2);rw [Nat.mul_assoc,Nat.mul_comm (4294967296 * P) 4294967296] at e3;have e4:u n * (4294967296 * (4294967296 * P)) < (v (n - 1)+1) * (4294967296 * (4294967296 * P)):=by omega
   have:=Nat.lt_of_mul_lt_mul_right e4;omega
  have g2:topU u n < 4294967298 * v (n - 1):=by
   unfold topU;omega
  have:=(Nat.div_lt_iff_lt_mul (show 0 < v (n - 1) by omega)).2 g2;omega
theorem Knuth.too_great (h:Knuth u v n) {q r:Nat} (hr:q * v (n - 1)+r=topU u n) (ht:r * 4294967296+u (n - 2) < q * v (n - 2)):valN u (n+1) / valN v n < q:=by
 obtain ⟨ul,vl,P,h1,h2,h3,h4,h5,h6⟩:=h.parts;rw [Nat.div_lt_iff_lt_mul h.pos]
 refine knuth_safe (P:=P) (t:=topU u n * 4294967296+u (n - 2)) (w:=v (n - 1) * 4294967296+v (n - 2)) ?_ (by omega) ?_
 ·rw [Nat.add_mul,Nat.one_mul];omega
 ·rw [<- hr,Nat.mul_add,Nat.add_mul,Nat.mul_assoc];omega
theorem Knuth.good (h:Knuth u v n) {q r:Nat} (hr:q * v (n - 1)+r=topU u n) (ht:q * v (n - 2)<=r * 4294967296+u (n - 2)) (hq:q<=4294967296):q<=valN u (n+1) / valN v n+1:=by
 obtain ⟨ul,vl,P,h1,h2,h3,h4,h5,h6⟩:=h.parts;have hv:=h.norm;have key:q * valN v n<=valN u (n+1)+valN v n:=by
  refine knuth_close (P:=P) (t:=topU u n * 4294967296+u (n - 2)) (w:=v (n - 1) * 4294967296+v (n - 2)) (by omega) ?_ ?_ ?_
  ·rw [Nat.add_mul,Nat.one_mul];omega
  ·rw [<- hr,Nat.mul_add,Nat.add_mul,Nat.mul_assoc];omega
  ·have g1:q * P<=4294967296 * P:=Nat.mul_le_mul_right _ hq;have g2:4294967296 * P<=(v (n - 1) * 4294967296+v (n - 2)) * P:=Nat.mul_le_mul_right _ (by omega);omega
 have hp:=h.pos;have h7:(q - 1) * valN v n<=valN u (n+1):=by
  rw [Nat.mul_comm,Nat.mul_sub_one,Nat.mul_comm];omega
 have:=(Nat.le_div_iff_mul_le hp).2 h7;omega
end
/-! ### The subtraction -/
section
variable {u v:Nat->Nat} {n q:Nat}
def prodD (q:Nat) (v:Nat->Nat):Nat->Nat:=mulD q v (fun _=>0)
def prodC (q:Nat) (v:Nat->Nat):Nat->Nat:=mulC q v (fun _=>0)
theorem prodC_succ (q:Nat) (v:Nat->Nat) (n:Nat):prodC q v (n+1)=(prodC q v n+q * v n) / 4294967296:=rfl
theorem prodD_at (q:Nat) (v:Nat->Nat) (n:Nat):prodD q v n=(prodC q v n+q * v n) % 4294967296:=rfl
theorem prodD_lt (q:Nat) (v:Nat->Nat) (n:Nat):prodD q v n < 4294967296:=Nat.mod_lt _ (by omega)
theorem prod_val (q:Nat) (v:Nat->Nat) (n:Nat):valN (prodD q v) n+prodC q v n * 4294967296^n=q * valN v n:=by
 have:=mulV q v (fun _=>0) n;rw [valN_zero (f:=fun _=>0) (fun _ _=>rfl)] at this;exact this
theorem prodC_lt (hq:q<=4294967296) (hv:∀ i,v i < 4294967296) (n:Nat):prodC q v n < 4294967296:=by
 induction n with
 | zero=>exact (by decide:(0:Nat) < 4294967296)
 | succ n ih=>
  have h1:q * v n<=4294967296 * 4294967295:=Nat.mul_le_mul hq (by have:=hv n;omega);rw [prodC_succ];omega
def redD (u v:Nat->Nat) (q:Nat):Nat->Nat:=digS u (prodD q v)
def redB (u v:Nat->Nat) (q:Nat):Nat->Nat:=borB u (prodD q v)
theorem redD_lt (hu:∀ i,u i < 4294967296) (i:Nat):redD u v q i < 4294967296:=digS_lt (hu i) (prodD_lt q v i)
theorem redB_le (u v:Nat->Nat) (q n:Nat):redB u v q n<=1:=borB_le _ _ _
theorem red_val (u v:Nat->Nat) (q n:Nat):valN (redD u v q) n+q * valN v n=valN u n+(redB u v q n+prodC q v n) * 4294967296^n:=by
 have h1:=subV (f:=u) (prodD_lt q v) n;have h2:=prod_val q v n;unfold redD redB;rw [Nat.add_mul];omega
theorem red_total (u v:Nat->Nat) (q n:Nat):valN (redD u v q) n+u n * 4294967296^n+q * valN v n=valN u (n+1)+(redB u v q n+prodC q v n) * 4294967296^n:=by
 have:=red_val u v q n;simp only [valN];omega
theorem red_yes (h:redB u v q n+prodC q v n<=u n):q * valN v n<=valN u (n+1)/\valN (redD u v q) n+(u n - (redB u v q n+prodC q v n)) * 4294967296^n=valN u (n+1) - q * valN v n:=by
 have h1:=red_total u v q n;have h2:u n * 4294967296^n=(u n - (redB u v q n+prodC q v n)) * 4294967296^n+(redB u v q n+prodC q v n) * 4294967296^n:=by
  rw [<- Nat.add_mul];congr 1;omega
 have h3:valN u (n+1)=valN u n+u n * 4294967296^n:=rfl;have h4:=red_val u v q n;omega
theorem red_no (hu:∀ i,u i < 4294967296) (h:u n < redB u v q n+prodC q v n) (hc:prodC q v n < 4294967296):valN u (n+1) < q * valN v n/\
  valN (redD u v q) n+(u n+4294967296 - (redB u v q n+prodC q v n)) * 4294967296^n+q * valN v n=valN u (n+1)+4294967296 * 4294967296^n:=by
 have h1:=red_total u v q n;have hb:=redB_le u v q n;have hd:valN (redD u v q) n < 4294967296^n:=valN_lt (fun i _=>redD_lt hu i);have h2:(redB u v q n+prodC q v n) * 4294967296^n=u n * 4294967296^n+(redB u v q n+prodC q v n - u n) * 4294967296^n:=by
  rw [<- Nat.add_mul];congr 1;omega
 have h3:1 * 4294967296^n<=(redB u v q n+prodC q v n - u n) * 4294967296^n:=Nat.mul_le_mul_right _ (by omega);have h5:(u n+4294967296 - (redB u v q n+prodC q v n)) * 4294967296^n+(redB u v q n+prodC q v n) * 4294967296^n=u n * 4294967296^n+4294967296 * 4294967296^n:=by
  rw [<- Nat.add_mul, <- Nat.add_mul];congr 1;omega
 constructor
 ·omega
 ·omega
theorem Knuth.exact (h:Knuth u v n) (hq:valN u (n+1) / valN v n<=q) (hq1:q<=valN u (n+1) / valN v n+1) (hs:redB u v q n+prodC q v n<=u n):
  q=valN u (n+1) / valN v n/\valN (redD u v q) n=valN u (n+1) % valN v n/\u n - (redB u v q n+prodC q v n)=0:=by
 obtain ⟨h1,h2⟩:=red_yes hs;have hp:=h.pos;have e1:q=valN u (n+1) / valN v n:=by
  have:q<=valN u (n+1) / valN v n:=(Nat.le_div_iff_mul_le hp).2 h1;omega
 have e2:valN u (n+1) - q * valN v n=valN u (n+1) % valN v n:=by
  have:=Nat.div_add_mod (valN u (n+1)) (valN v n);rw [<- e1,Nat.mul_comm] at this;omega
 rw [e2] at h2;have h3:=Nat.mod_lt (valN u (n+1)) hp;have h4:valN v n < 4294967296^n:=valN_lt (fun i _=>h.vl i);have h5:u n - (redB u v q n+prodC q v n)=0:=by
  rcases Nat.eq_zero_or_pos (u n - (redB u v q n+prodC q v n)) with hz | hz
  ·exact hz
  ·have:1 * 4294967296^n<=(u n - (redB u v q n+prodC q v n)) * 4294967296^n:=Nat.mul_le_mul_right _ hz;omega
 rw [h5] at h2;exact ⟨e1,by omega,h5⟩
theorem Knuth.again (h:Knuth u v n) (hq:valN u (n+1) / valN v n<=q) (hq1:q<=valN u (n+1) / valN v n+1) (hqB:q<=4294967296) (hs:u n < redB u v q n+prodC q v n):
  q=valN u (n+1) / valN v n+1/\valN (digA (redD u v q) v) n=valN u (n+1) % valN v n/\u n+4294967296 - (redB u v q n+prodC q v n)+carryA (redD u v q) v n=4294967296:=by
 obtain ⟨h1,h2⟩:=red_no h.ul hs (prodC_lt hqB h.vl n);have hp:=h.pos;have e1:q=valN u (n+1) / valN v n+1:=by
  have:valN u (n+1) / valN v n < q:=(Nat.div_lt_iff_lt_mul hp).2 h1;omega
 have e3:q * valN v n=valN u (n+1) / valN v n * valN v n+valN v n:=by
  rw [e1];generalize valN u (n+1) / valN v n=Q;rw [Nat.add_mul,Nat.one_mul]
 have e4:=Nat.div_add_mod (valN u (n+1)) (valN v n);rw [Nat.mul_comm] at e4;have h3:=Nat.mod_lt (valN u (n+1)) hp;have h4:valN v n < 4294967296^n:=valN_lt (fun i _=>h.vl i);have h5:=addV (redD u v q) v n;have h6:valN (digA (redD u v q) v) n < 4294967296^n:=valN_lt (fun i _=>digA_lt _ _ i);generalize hx:u n+4294967296 - (redB u v q n+prodC q v n)=x at *;generalize carryA (redD u v q) v n=c at *;have h7:valN (digA (redD u v q) v) n+(x+c) * 4294967296^n=valN u (n+1) % valN v n+4294967296 * 4294967296^n:=by
  rw [Nat.add_mul];omega
 have h8:x+c=4294967296:=by
  rcases Nat.lt_trichotomy (x+c) 4294967296 with hlt | he | hgt
  ·have:(x+c+1) * 4294967296^n<=4294967296 * 4294967296^n:=Nat.mul_le_mul_right _ hlt;rw [Nat.add_mul,Nat.one_mul] at this;omega
  ·exact he
  ·have:(4294967296+1) * 4294967296^n<=(x+c) * 4294967296^n:=Nat.mul_le_mul_right _ hgt;rw [Nat.add_mul,Nat.one_mul] at this;omega
 rw [h8] at h7;exact ⟨e1,by omega,h8⟩
end
def limbAt (V j:Nat):Nat:=V / 4294967296^j % 4294967296
def rowN (n V:Nat):List Nat:=(List.range n).map (limbAt V)
theorem limbAt_lt (V j:Nat):limbAt V j < 4294967296:=Nat.mod_lt _ (by omega)
theorem valN_limbAt (V n:Nat):valN (limbAt V) n=V % 4294967296^n:=by
 induction n with
 | zero=>simp [valN,Nat.mod_one]
 | succ n ih=>simp only [valN];rw [Nat.mod_pow_succ,ih,Nat.mul_comm (4294967296^n)];rfl
theorem rowN_len (n V:Nat):(rowN n V).length=n:=by simp [rowN]
theorem limbAt_zero_of_lt {V j:Nat} (h:V < 4294967296^j):limbAt V j=0:=by unfold limbAt;rw [Nat.div_eq_of_lt h]
theorem limbAt_valN {f:Nat->Nat} (hf:∀ i,f i < 4294967296) {n j:Nat} (hj:j < n):limbAt (valN f n) j=f j:=by
 obtain ⟨m,rfl⟩:∃ m,n=j+(1+m):=⟨n - (j+1),by omega⟩
 unfold limbAt;rw [valN_split,Nat.add_mul_div_right _ _ (bpow_pos j),Nat.div_eq_of_lt (valN_lt (fun i _=>hf i)),Nat.zero_add,valN_split];simp only [valN,Nat.pow_zero,Nat.mul_one,Nat.zero_add,Nat.pow_one,Nat.add_zero];rw [Nat.add_mul_mod_self_right,Nat.mod_eq_of_lt (hf j)]
theorem limbAt_lval {l:List Nat} (hl:Lim l) (j:Nat):limbAt (lval l) j=dig l j:=by
 rcases Nat.lt_or_ge j l.length with h | h
 ·exact limbAt_valN (fun i=>dig_lt hl i) h
 ·rw [dig_out h];exact limbAt_zero_of_lt (Nat.lt_of_lt_of_le (lval_lt hl) (Nat.pow_le_pow_right (by omega) h))
theorem rowN_lval {l:List Nat} (hl:Lim l):rowN l.length (lval l)=l:=by
 apply List.ext_getElem?
 intro i
 rcases Nat.lt_or_ge i l.length with h | h
 ·rw [rowN,List.getElem?_map,List.getElem?_range h,at_dig h,Option.map_some,limbAt_lval hl]
 ·rw [List.getElem?_eq_none h,List.getElem?_eq_none (by rw [rowN_len];exact h)]
theorem limbAt_shift (V i j:Nat):limbAt (V / 4294967296^i) j=limbAt V (i+j):=by
 unfold limbAt;rw [Nat.div_div_eq_div_mul, <- Nat.pow_add]
/-! ### Long division -/
theorem div_step {W V i:Nat} (hV:0 < V) (hW:W < V * 4294967296^(i+1)):
  W / 4294967296^i < V * 4294967296/\(W / 4294967296^i % V) * 4294967296^i+W % 4294967296^i < V * 4294967296^i/\
   W=(W / 4294967296^i % V) * 4294967296^i+W % 4294967296^i+V * (W / 4294967296^i / V * 4294967296^i):=by
 have hP:=bpow_pos i;have h0:=Nat.div_add_mod W (4294967296^i);have h1:=Nat.mod_lt W hP;rw [bpow_succ] at hW;generalize 4294967296^i=P at *;have h2:=Nat.div_add_mod (W / P) V;have h3:=Nat.mod_lt (W / P) hV
 refine ⟨?_,?_,?_⟩
 ·rw [Nat.div_lt_iff_lt_mul hP,Nat.mul_assoc,Nat.mul_comm 4294967296];exact hW
 ·have:(W / P % V+1) * P<=V * P:=Nat.mul_le_mul_right _ h3;rw [Nat.add_mul,Nat.one_mul] at this;omega
 ·have e:V * (W / P / V * P)=V * (W / P / V) * P:=by rw [Nat.mul_assoc]
  rw [e];have e2:P * (W / P)=(W / P % V) * P+V * (W / P / V) * P:=by
   rw [<- Nat.add_mul,Nat.add_comm,h2,Nat.mul_comm]
  omega
theorem div_limbs {W X i n:Nat} (hX:X < 4294967296^n) (j:Nat) (hW:W < 4294967296^(i+n+1)):
  limbAt (X * 4294967296^i+W % 4294967296^i) j=if j < i then limbAt W j else if j < i+n then limbAt X (j - i) else 0:=by
 have hP:=bpow_pos i;have hm:=Nat.mod_lt W hP
 by_cases h1:j < i
 ·rw [if_pos h1];have e:∀ Z:Nat,limbAt Z j=limbAt (Z % 4294967296^i) j:=by
   intro Z;obtain ⟨m,rfl⟩:∃ m,i=j+(m+1):=⟨i - (j+1),by omega⟩
   unfold limbAt;rw [Nat.pow_add,Nat.mod_mul_right_div_self,bpow_succ,Nat.mul_comm,Nat.mod_mul_right_mod]
  rw [e (X * 4294967296^i+W % 4294967296^i),e W,Nat.mul_comm X,Nat.mul_add_mod_self_left,Nat.mod_mod]
 ·rw [if_neg h1];obtain ⟨k,rfl⟩:∃ k,j=i+k:=⟨j - i,by omega⟩
  rw [<- limbAt_shift,Nat.mul_comm X,Nat.mul_add_div hP,Nat.div_eq_of_lt hm,Nat.add_zero,Nat.add_sub_cancel_left]
  by_cases h2:k < n
  ·rw [if_pos (by omega)]
  ·rw [if_neg (by omega)];exact limbAt_zero_of_lt (Nat.lt_of_lt_of_le hX (Nat.pow_le_pow_right (by omega) (by omega)))
theorem div_scaled (a b s:Nat):(a * 2^s) / (b * 2^s)=a / b/\(a * 2^s) % (b * 2^s) / 2^s=a % b:=by
 have hp:=Nat.two_pow_pos s;exact ⟨Nat.mul_div_mul_right _ _ hp,by rw [Nat.mul_mod_mul_right,Nat.mul_div_cancel _ hp]⟩
/-! ### Bits -/
theorem or_add {a b k:Nat} (hb:b < 2^k) (ha:a % 2^k=0):a ||| b=a+b:=by
 have e:a=2^k * (a / 2^k):=by have:=Nat.div_add_mod a (2^k);omega
 rw [e];exact (Nat.two_pow_add_eq_or_of_lt hb _).symm
theorem or_add' {a b k:Nat} (hb:b < 2^k) (ha:a % 2^k=0):b ||| a=b+a:=by rw [Nat.or_comm,or_add hb ha,Nat.add_comm]
theorem valN_put {o:Nat->Nat} {k:Nat} (q:Nat):∀ {N:Nat},k < N->o k=0->valN (fun j=>if j=k then q else o j) N=valN o N+q * 4294967296^k
 | 0,h,_=>by omega
 | N+1,h,h0=>by
  simp only [valN]
  by_cases hk:k=N
  ·subst hk;rw [if_pos rfl,valN_congr (n:=k) (g:=o) (fun i hi=>by rw [if_neg (by omega)]),h0];simp
  ·rw [if_neg (fun e=>hk e.symm),valN_put q (by omega) h0];omega
structure DivInv (X V N k W:Nat) (o:Nat->Nat):Prop where
 sum:X=W+V * valN o N
 lt:W < V * 4294967296^k
 zero:∀ j,j < k->o j=0
 lim:∀ j,o j < 4294967296
def divW (V k W:Nat):Nat:=(W / 4294967296^k % V) * 4294967296^k+W % 4294967296^k
def divO (V k W:Nat) (o:Nat->Nat):Nat->Nat:=fun j=>if j=k then W / 4294967296^k / V else o j
theorem DivInv.quo {X V N k W:Nat} {o:Nat->Nat} (hV:0 < V) (h:DivInv X V N (k+1) W o):W / 4294967296^k / V < 4294967296:=by
 rw [Nat.div_lt_iff_lt_mul hV,Nat.mul_comm];exact (div_step hV h.lt).1
theorem DivInv.step {X V N k W:Nat} {o:Nat->Nat} (hV:0 < V) (hk:k < N) (h:DivInv X V N (k+1) W o):DivInv X V N k (divW V k W) (divO V k W o):=by
 obtain ⟨h1,h2,h3⟩:=div_step hV h.lt;have hq:=h.quo hV
 refine ⟨?_,h2,fun j hj=>?_,fun j=>?_⟩
 ·unfold divO;rw [valN_put _ hk (h.zero k (by omega)),Nat.mul_add];have:=h.sum;unfold divW;omega
 ·unfold divO;rw [if_neg (by omega)];exact h.zero j (by omega)
 ·unfold divO;split
  ·exact hq
  ·exact h.lim j
theorem DivInv.done {X V N W:Nat} {o:Nat->Nat} (h:DivInv X V N 0 W o):valN o N=X / V/\W=X % V:=by
 have h1:=h.sum;have h2:=h.lt;rw [Nat.pow_zero,Nat.mul_one] at h2;have hV:0 < V:=by omega
 rw [h1];exact ⟨by rw [Nat.add_mul_div_left _ _ hV,Nat.div_eq_of_lt h2,Nat.zero_add],by rw [Nat.add_mul_mod_self_left,Nat.mod_eq_of_lt h2]⟩
theorem DivInv.start {X V N:Nat} (h:X < V * 4294967296^N):DivInv X V N N X (fun _=>0):=
 ⟨by rw [valN_zero (fun _ _=>rfl)];simp,h,fun _ _=>rfl,fun _=>by omega⟩
theorem window_val {W i m:Nat} (h:W < 4294967296^(i+m)):valN (fun j=>limbAt W (i+j)) m=W / 4294967296^i:=by
 rw [valN_congr (g:=limbAt (W / 4294967296^i)) (fun j _=>(limbAt_shift W i j).symm),valN_limbAt,Nat.mod_eq_of_lt];rw [Nat.div_lt_iff_lt_mul (bpow_pos i), <- Nat.pow_add,Nat.add_comm m];exact h
structure Norm (y n s V:Nat):Prop where
 s32:s < 32
 eq:V=y * 2^s
 lt:V < 4294967296^n
 top:2147483648 * 4294967296^(n - 1)<=V
theorem top_split (y:Nat) (hn:0 < (limbs y).length):∃ lo,lo < 4294967296^((limbs y).length - 1)/\y=lo+dig (limbs y) ((limbs y).length - 1) * 4294967296^((limbs y).length - 1):=by
 obtain ⟨m,hm⟩:∃ m,(limbs y).length=m+1:=⟨(limbs y).length - 1,by omega⟩
 refine ⟨valN (dig (limbs y)) m,?_,?_⟩
 ·rw [hm];exact valN_lt (fun i _=>dig_lt (lim_limbs y) i)
 ·have:=lval_limbs y;unfold lval at this;rw [hm] at this ⊢;simp only [valN] at this;rw [Nat.add_sub_cancel];exact this.symm
theorem norm_of {y L:Nat} (hn:0 < (limbs y).length) (hL1:1<=L) (hL2:2^(L - 1)<=dig (limbs y) ((limbs y).length - 1)) (hL3:dig (limbs y) ((limbs y).length - 1) < 2^L):Norm y (limbs y).length (32 - L) (y * 2^(32 - L))/\L<=32:=by
 obtain ⟨lo,h1,h2⟩:=top_split y hn;have hd:=dig_lt (lim_limbs y) ((limbs y).length - 1);generalize dig (limbs y) ((limbs y).length - 1)=d at *;have hL32:L<=32:=by
  have:2^(L - 1) < 2^32:=Nat.lt_of_le_of_lt hL2 (by omega);have:=(Nat.pow_lt_pow_iff_right (a:=2) (by omega)).1 this;omega
 have hp:2^L * 2^(32 - L)=4294967296:=by rw [<- Nat.pow_add,show L+(32 - L)=32 by omega]
 have hp2:2^(L - 1) * 2^(32 - L)=2147483648:=by rw [<- Nat.pow_add,show L - 1+(32 - L)=31 by omega]
 have h3:d * 2^(32 - L)+2^(32 - L)<=4294967296:=by
  have:(d+1) * 2^(32 - L)<=2^L * 2^(32 - L):=Nat.mul_le_mul_right _ hL3
  rwa [Nat.add_mul,Nat.one_mul,hp] at this
 have h4:2147483648<=d * 2^(32 - L):=by rw [<- hp2];exact Nat.mul_le_mul_right _ hL2
 obtain ⟨m,hm⟩:∃ m,(limbs y).length=m+1:=⟨(limbs y).length - 1,by omega⟩
 rw [hm,Nat.add_sub_cancel] at h1 h2;rw [hm];have hs:=Nat.two_pow_pos (32 - L)
 refine ⟨⟨by omega,rfl,?_,?_⟩,hL32⟩
 ·rw [bpow_succ,h2,Nat.add_mul];have a1:lo * 2^(32 - L) < 4294967296^m * 2^(32 - L):=Nat.mul_lt_mul_of_pos_right h1 hs;have a2:(d * 2^(32 - L)+2^(32 - L)) * 4294967296^m<=4294967296 * 4294967296^m:=Nat.mul_le_mul_right _ h3;rw [Nat.add_mul,Nat.mul_comm (2^(32 - L))] at a2;rw [Nat.mul_right_comm d,Nat.mul_comm _ 4294967296];omega
 ·rw [Nat.add_sub_cancel,h2,Nat.add_mul,Nat.mul_right_comm d];have a2:2147483648 * 4294967296^m<=d * 2^(32 - L) * 4294967296^m:=Nat.mul_le_mul_right _ h4;exact Nat.le_trans a2 (Nat.le_add_left _ _)
theorem Norm.pos {y n s V:Nat} (h:Norm y n s V):0 < V:=Nat.lt_of_lt_of_le (Nat.mul_pos (by omega) (bpow_pos _)) h.top
theorem Norm.len {y n s V:Nat} (hn:0 < n) (h:Norm y n s V):(limbs V).length=n:=by
 have h1:=limbs_len_le h.lt;have h2:¬ (limbs V).length<=n - 1:=fun hle=>by
  have:=Nat.lt_of_lt_of_le (limbs_len_lt V) (Nat.pow_le_pow_right (by omega:0 < 4294967296) hle);have h3:=h.top;have:=bpow_pos (n - 1);omega
 omega
theorem Norm.digit {y n s V:Nat} (hn:0 < n) (h:Norm y n s V):2147483648<=dig (limbs V) (n - 1):=by
 have e:dig (limbs V) (n - 1)=limbAt V (n - 1):=by rw [<- limbAt_lval (lim_limbs V),lval_limbs]
 rw [e];unfold limbAt;have h1:V / 4294967296^(n - 1) < 4294967296:=by
  rw [Nat.div_lt_iff_lt_mul (bpow_pos _),Nat.mul_comm, <- bpow_succ,show n - 1+1=n by omega];exact h.lt
 rw [Nat.mod_eq_of_lt h1];exact (Nat.le_div_iff_mul_le (bpow_pos _)).2 h.top
theorem Norm.start {x y n s V:Nat} (hn:0 < n) (h:Norm y n s V) (hy:4294967296^(n - 1)<=y) (hl:n<=(limbs x).length):x * 2^s < V * 4294967296^((limbs x).length - n+1):=by
 rw [h.eq,Nat.mul_right_comm]
 refine Nat.mul_lt_mul_of_pos_right ?_ (Nat.two_pow_pos s)
 refine Nat.lt_of_lt_of_le (limbs_len_lt x) ?_
 rw [show (limbs x).length=n - 1+((limbs x).length - n+1) by omega,Nat.pow_add];rw [show n - 1+((limbs x).length - n+1) - n+1=(limbs x).length - n+1 by omega];exact Nat.mul_le_mul_right _ hy
theorem limbs_low {y:Nat} (hn:0 < (limbs y).length):4294967296^((limbs y).length - 1)<=y:=by
 refine Nat.le_of_not_lt fun h=>?_
 have:=limbs_len_le h;omega
structure RatL where
 neg:Bool
 num:List Nat
 den:List Nat
deriving DecidableEq
abbrev ratO (x:RatL) (an:Option Addr) (cn:Nat) (ad:Option Addr) (cd:Nat) (T:Nat):Obj:=.cells #[.bool x.neg,.slice an x.num.length cn,.slice ad x.den.length cd] T
abbrev zerO (T:Nat):Obj:=.cells #[.bool false,.slice none 0 0,.slice none 0 0] T
def RatL.Lim (x:RatL):Prop:=Go.Proofs.YtfgmmghmmfmdgaaGreat.Lim x.num/\Go.Proofs.YtfgmmghmmfmdgaaGreat.Lim x.den
def underN (d:List Nat):Nat:=if lval d=0 then 1 else lval d
theorem underN_pos (d:List Nat):0 < underN d:=by unfold underN;split <;> omega
def quotN (neg:Bool) (n d:Nat):RatL:=
 ⟨neg && decide (n ≠ 0),limbs (n / Nat.gcd n d),if d / Nat.gcd n d=1 then [] else limbs (d / Nat.gcd n d)⟩
def canonL (x:RatL):RatL:=quotN x.neg (lval x.num) (underN x.den)
def validR (x:RatL):Bool:=decide (x=canonL x)
theorem quotN_zero (neg:Bool) {d:Nat} (hd:0 < d):quotN neg 0 d=⟨false,[],[]⟩:=by
 simp [quotN,Nat.div_self hd,limbs_zero]
theorem quotN_one (neg:Bool) {n:Nat} (hn:n ≠ 0):quotN neg n 1=⟨neg,limbs n,[]⟩:=by
 simp [quotN,hn]
theorem quotN_lim (neg:Bool) (n d:Nat):(quotN neg n d).Lim:=by
 refine ⟨lim_limbs _,?_⟩
 simp only [quotN]
 split
 ·intro x hx;simp at hx
 ·exact lim_limbs _
theorem lim_ext {a b:List Nat} (ha:Lim a) (hb:Lim b) (hl:a.length=b.length) (hv:lval a=lval b):a=b:=by
 rw [<- rowN_lval ha, <- rowN_lval hb,hl,hv]
theorem valid_none {x:RatL} (hx:x.Lim) (h:x.den=[]):validR x=(decide (Canon x.num) && (!x.neg || decide (0 < x.num.length))):=by
 obtain ⟨neg,num,den⟩:=x;simp only at h;subst h;have hu:underN []=1:=by simp [underN,lval_nil]
 rw [Bool.eq_iff_iff];simp only [validR,canonL,hu,decide_eq_true_eq,Bool.and_eq_true,Bool.or_eq_true,Bool.not_eq_true']
 by_cases hn:lval num=0
 ·rw [hn,quotN_zero neg (by omega)]
  constructor
  ·intro h;cases h;exact ⟨.inl rfl,.inl rfl⟩
  ·rintro ⟨h1,h2⟩;have h3:=canon_limbs hx.1 h1;simp only [hn,limbs_zero] at h3;subst h3;simp at h2;subst h2;rfl
 ·rw [quotN_one neg hn]
  constructor
  ·intro h;simp only [RatL.mk.injEq,true_and,and_true] at h
   refine ⟨by rw [h];exact limbs_canon _,.inr ?_⟩
   rcases Nat.eq_zero_or_pos num.length with h0 | h0
   ·rw [List.eq_nil_of_length_eq_zero h0,lval_nil] at hn;exact absurd rfl hn
   ·exact h0
  ·rintro ⟨h1,_⟩;rw [canon_limbs hx.1 h1]
theorem valid_some {x:RatL} (hx:x.Lim):validR x=(decide (x.neg=(canonL x).neg) && decide (x.num.length=(canonL x).num.length) && decide (x.den.length=(canonL x).den.length) &&
  decide (lval x.num=lval (canonL x).num) && decide (lval x.den=lval (canonL x).den)):=by
 rw [Bool.eq_iff_iff];simp only [validR,decide_eq_true_eq,Bool.and_eq_true];have hc:(canonL x).Lim:=quotN_lim _ _ _;generalize canonL x=c at *;obtain ⟨neg,num,den⟩:=x;obtain ⟨neg',num',den'⟩:=c;simp only
 constructor
 ·intro h;cases h;exact ⟨⟨⟨⟨rfl,rfl⟩,rfl⟩,rfl⟩,rfl⟩
 ·rintro ⟨⟨⟨⟨h1,h2⟩,h3⟩,h4⟩,h5⟩;have e1:num=num':=lim_ext hx.1 hc.1 h2 h4;have e2:den=den':=lim_ext hx.2 hc.2 h3 h5;rw [h1,e1,e2]
theorem dig_lval {l:List Nat} (h:Lim l) (k:Nat):dig l k=lval l / 4294967296^k % 4294967296:=by
 induction l generalizing k with
 | nil=>simp [dig,lval_nil]
 | cons d l ih=>
  obtain ⟨h1,h2⟩:=h.cons;rw [lval_cons]
  cases k with
  | zero=>simp [dig];omega
  | succ k=>
   rw [dig_cons,ih h2,Nat.pow_succ,Nat.mul_comm (4294967296^k), <- Nat.div_div_eq_div_mul]
   congr 2
   omega
def limbOf (Q k:Nat):Nat:=Q / 4294967296^k % 4294967296
theorem limbOf_lt (Q k:Nat):limbOf Q k < 4294967296:=Nat.mod_lt _ (by omega)
theorem limbOf_zero (k:Nat):limbOf 0 k=0:=by simp [limbOf]
theorem bpow_two (k:Nat):4294967296^k=2^(32 * k):=by rw [Nat.pow_mul]
theorem limbOf_bit (Q k t:Nat):(limbOf Q k).testBit t=(decide (t < 32) && Q.testBit (32 * k+t)):=by
 unfold limbOf;rw [bpow_two,show (4294967296:Nat)=2^32 by rfl,Nat.testBit_mod_two_pow,Nat.testBit_div_two_pow,Nat.add_comm t]
theorem limbOf_or (Q i j:Nat):limbOf (Q ||| 2^i) j=if j=i / 32 then limbOf Q j ||| 2^(i % 32) else limbOf Q j:=by
 apply Nat.eq_of_testBit_eq
 intro t;rw [limbOf_bit,Nat.testBit_or,Nat.testBit_two_pow]
 by_cases hj:j=i / 32
 ·rw [if_pos hj,Nat.testBit_or,Nat.testBit_two_pow,limbOf_bit]
  by_cases ht:t < 32
  ·have:(i=32 * j+t) ↔ (i % 32=t):=by omega
   simp [ht,this]
  ·have:i % 32 ≠ t:=by omega
   simp [ht,this]
 ·rw [if_neg hj,limbOf_bit]
  by_cases ht:t < 32
  ·have:i ≠ 32 * j+t:=by omega
   simp [this]
  ·simp [ht]
theorem valN_limbOf (Q n:Nat) (h:Q < 4294967296^n):valN (limbOf Q) n=Q:=by
 have key:∀ n,valN (limbOf Q) n=Q % 4294967296^n:=by
  intro n
  induction n with
  | zero=>simp [valN,Nat.mod_one]
  | succ n ih=>
   simp only [valN];rw [ih,limbOf,Nat.pow_succ,Nat.mod_mul,Nat.mul_comm (Q / 4294967296^n % 4294967296)]
 rw [key,Nat.mod_eq_of_lt h]
theorem bits_step (A i:Nat):A / 2^i=2 * (A / 2^(i+1))+A / 2^i % 2:=by
 rw [Nat.pow_succ, <- Nat.div_div_eq_div_mul];omega
theorem divbit_ge {N B b:Nat} (hB:0 < B) (hb:b < 2) (h:B<=2 * (N % B)+b):(2 * N+b) % B=2 * (N % B)+b - B/\(2 * N+b) / B=2 * (N / B)+1:=by
 have hm:=Nat.mod_lt N hB;have e:=Nat.div_add_mod N B;generalize N % B=r at *;generalize N / B=q at *;subst e;have e2:2 * (B * q+r)+b=B * (2 * q+1)+(2 * r+b - B):=by
  rw [Nat.mul_add,Nat.mul_add,Nat.mul_left_comm];omega
 rw [e2]
 constructor
 ·rw [Nat.mul_add_mod,Nat.mod_eq_of_lt (by omega)]
 ·rw [Nat.mul_add_div hB,Nat.div_eq_of_lt (by omega)]
theorem divbit_lt {N B b:Nat} (h:2 * (N % B)+b < B):(2 * N+b) % B=2 * (N % B)+b/\(2 * N+b) / B=2 * (N / B):=by
 have hB:0 < B:=by omega
 have hm:=Nat.mod_lt N hB;have e:=Nat.div_add_mod N B;generalize N % B=r at *;generalize N / B=q at *;subst e;have e2:2 * (B * q+r)+b=B * (2 * q)+(2 * r+b):=by
  rw [Nat.mul_add,Nat.mul_left_comm];omega
 rw [e2]
 constructor
 ·rw [Nat.mul_add_mod,Nat.mod_eq_of_lt h]
 ·rw [Nat.mul_add_div hB,Nat.div_eq_of_lt h];omega
def quoAt (A B i:Nat):Nat:=A / 2^i / B * 2^i
def remAt (A B i:Nat):Nat:=A / 2^i % B
def bitAt (A i:Nat):Nat:=A / 2^i % 2
theorem bitAt_lt (A i:Nat):bitAt A i < 2:=Nat.mod_lt _ (by omega)
theorem step_ge {A B i:Nat} (hB:0 < B) (h:B<=2 * remAt A B (i+1)+bitAt A i):remAt A B i=2 * remAt A B (i+1)+bitAt A i - B/\quoAt A B i=quoAt A B (i+1) ||| 2^i:=by
 obtain ⟨h1,h2⟩:=divbit_ge hB (bitAt_lt A i) h;have e:2 * (A / 2^(i+1))+bitAt A i=A / 2^i:=(bits_step A i).symm;rw [e] at h1 h2
 refine ⟨h1,?_⟩
 unfold quoAt;rw [h2,Nat.mul_comm (A / 2^(i+1) / B), <- Nat.two_pow_add_eq_or_of_lt (by rw [Nat.pow_succ];have:=Nat.two_pow_pos i;omega),Nat.pow_succ,Nat.add_mul,Nat.one_mul,Nat.mul_comm 2,Nat.mul_assoc,Nat.mul_comm (A / (2^i * 2) / B),Nat.mul_comm (2^i) 2]
theorem step_lt {A B i:Nat} (h:2 * remAt A B (i+1)+bitAt A i < B):remAt A B i=2 * remAt A B (i+1)+bitAt A i/\quoAt A B i=quoAt A B (i+1):=by
 obtain ⟨h1,h2⟩:=divbit_lt h;have e:2 * (A / 2^(i+1))+bitAt A i=A / 2^i:=(bits_step A i).symm;rw [e] at h1 h2
 refine ⟨h1,?_⟩
 unfold quoAt;rw [h2,Nat.pow_succ,Nat.mul_comm 2,Nat.mul_assoc,Nat.mul_comm 2]
theorem at_top {A B n:Nat} (h:A < 2^n):remAt A B n=0/\quoAt A B n=0:=by
 unfold remAt quoAt;rw [Nat.div_eq_of_lt h];simp
theorem at_end (A B:Nat):remAt A B 0=A % B/\quoAt A B 0=A / B:=by simp [remAt,quoAt]
theorem quoAt_le (A B i:Nat):quoAt A B i<=A:=
 Nat.le_trans (Nat.mul_le_mul_right _ (Nat.div_le_self _ _)) (Nat.div_mul_le_self _ _)
theorem bitAt_dig {l:List Nat} (h:Lim l) (i:Nat):bitAt (lval l) i=dig l (i / 32) / 2^(i % 32) % 2:=by
 rw [dig_lval h];have h1:∀ x n:Nat,x / 2^n % 2=(x.testBit n).toNat:=fun x n=>by
  rw [Nat.testBit_eq_decide_div_mod_eq];have:=Nat.mod_lt (x / 2^n) (show 0 < 2 by omega)
  by_cases h:x / 2^n % 2=1 <;> simp [h];omega
 unfold bitAt;rw [h1,h1];have:=limbOf_bit (lval l) (i / 32) (i % 32);unfold limbOf at this;rw [this,decide_eq_true (Nat.mod_lt _ (by omega)),Bool.true_and,Nat.div_add_mod]
end Go.Proofs.YtfgmmghmmfmdgaaGreat
