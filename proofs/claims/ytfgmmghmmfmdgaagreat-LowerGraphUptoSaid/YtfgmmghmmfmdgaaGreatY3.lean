/-
  Contracts: Limb, LimbB, LimbC, LimbD, LimbE, RatL, LimbF.
-/
import Derived.Lib.Hide
import Derived.Test.YtfgmmghmmfmdgaaGreatY0
set_option linter.all false
set_option maxRecDepth 100000
set_option maxHeartbeats 3200000
namespace Go.Proofs.YtfgmmghmmfmdgaaGreat
open Go.Lib (hid)
theorem EB{P:Prop}(h:P:=by rw[ZI,Zah]at this;omega):P:=h
theorem EV{P:Prop}(h:P:=by simp only[ziQ,zib (Za l.length),Nat.zero_div,Nat.mul_zero,ZW]at h;exact h.symm):P:=h
def zx(f:Nat->Nat):Nat->Nat
 | 0=>0
 | n+1=>zx f n+f n*4294967296^n
def dig(l:List Nat)(i:Nat):Nat:=l.getD i 0
def zo(l:List Nat):Nat:=zx (dig l) l.length
def Lim(l:List Nat):Prop:=∀d∈l,d<4294967296
theorem zbG(n:Nat):0<4294967296^n:=Nat.pow_pos Ya
theorem zaM(n:Nat):4294967296^(n+1)=4294967296^n*4294967296:=ZaQ _ _
theorem zac{f g:Nat->Nat}{n:Nat}(h:∀i,i<n->f i=g i):zx f n=zx g n:=by
 induction n with
 | zero=>rfl
 | succ n ih=>simp only[zx];rw[ih (fun i hi=>h i Ya),h n Ya]
theorem zeJ{f:Nat->Nat}{n:Nat}(h:∀i,i<n->f i=0):zx f n=0:=by
 induction n with
 | zero=>rfl
 | succ n ih=>simp only[zx];rw[ih (fun i hi=>h i Ya),h n Ya];simp
theorem zeE{f:Nat->Nat}{n m:Nat}(hnm:n<=m)(h:∀i,n<=i->i<m->f i=0):zx f m=zx f n:=by
 induction m with
 | zero => have : n = 0 := by omega
           rw[this]
 | succ m ih=>
  by_cases he:n=m+1
  ·rw[he]
  ·simp only[zx];rw[ih Ya (fun i h1 h2=>h i h1 Ya),h m Ya Ya];simp
theorem zbp{f:Nat->Nat}{n:Nat}(h:∀i,i<n->f i<4294967296):zx f n<4294967296^n:=by
 induction n with
 | zero=>simp[zx]
 | succ n ih=>
  simp only[zx,zaM];have h1:=ih (fun i hi=>h i Ya);have h2:f n*4294967296^n<=4294967295*4294967296^n:=Zp _ (by have:=h n Ya;omega);omega
theorem za9(f:Nat->Nat)(k n:Nat):zx f (k+n)=zx f k+zx (fun i=>f (k+i)) n*4294967296^k:=by
 induction n with
 | zero=>simp[zx]
 | succ n ih=>
  rw[<- ZaT];simp only[zx];rw[ih,ZI,Zaf,ZM,ZaT,Zz (4294967296^n)]
theorem zD{l:List Nat}(h:Lim l)(i:Nat):dig l i<4294967296:=by
 unfold dig;rw[Zf]
 cases hi:l[i]? with
 | none=>simp
 | some d=>exact h d (Zt hi)
theorem zcu{l:List Nat}{i:Nat}(h:l.length<=i):dig l i=0:=by
 unfold dig;rw[Zf,Za2 h];rfl
theorem zqZ{l:List Nat}{i d:Nat}(h:l[i]? =some d):dig l i=d:=by
 unfold dig;rw[Zf,h];rfl
theorem zdQ{l:List Nat}{i:Nat}(h:i<l.length):l[i]? =some (dig l i):=by
 unfold dig;rw[Zf,Zn h];rfl
theorem zcP{l:List Nat}(h:Lim l):zo l<4294967296^l.length:=zbp (fun i _=>zD h i)
theorem zcj:zo []=0:=rfl
theorem zne{f:Nat->Nat}{n i:Nat}(h:i<n):dig ((List.range n).map f) i=f i:=by
 unfold dig;simp[h]
theorem zby(f:Nat->Nat)(n:Nat):zo ((List.range n).map f)=zx f n:=by
 unfold zo;rw[ZP,Zaj];exact zac (fun i hi=>zne hi)
theorem zfY(d:Nat)(l:List Nat)(i:Nat):dig (d::l) (i+1)=dig l i:=by unfold dig;simp
theorem zbk(d:Nat)(l:List Nat):zo (d::l)=d+4294967296*zo l:=by
 unfold zo;rw[ZJ,Zbw,za9];simp only[zx,Nat.pow_zero,Zbp,ZO,Nat.pow_one];rw[show dig (d::l) 0=d from rfl,Zz]
 congr 2
 exact zac (fun i _=>by rw[Zbw];exact zfY d l i)
theorem Lim.cons{d:Nat}{l:List Nat}(h:Lim (d::l)):d<4294967296/\Lim l:=⟨h d Yd,fun x hx=>h x (by simp[hx])⟩
def ze(n:Nat):List Nat:=if n=0 then[]else n%4294967296::ze (n/4294967296)
termination_by n
decreasing_by exact Nat.div_lt_self Ya Ya
theorem zr:ze 0=[]:=by unfold ze;simp
theorem zc8{n:Nat}(h:n≠0):ze n=n%4294967296::ze (n/4294967296):=by rw[ze,Zh h]
theorem zlv{d v:Nat}(hd:d<4294967296)(h:d≠0∨v≠0):ze (d+4294967296*v)=d::ze v:=by
 rw[zc8 Ya]
 congr 1
 ·omega
 ·congr 1;omega
theorem zi(n:Nat):zo (ze n)=n:=by
 induction n using Nat.strongRecOn with
 | _ n ih=>
  by_cases h:n=0
  ·subst h;rw[zr];rfl
  ·rw[zc8 h,zbk,ih _ (Nat.div_lt_self Ya Ya)];omega
theorem zq(n:Nat):Lim (ze n):=by
 induction n using Nat.strongRecOn with
 | _ n ih=>
  by_cases h:n=0
  ·subst h;rw[zr];intro d hd;simp at hd
  ·rw[zc8 h];intro d hd
   rcases Zbd.1 hd with rfl|hd
   ·omega
   ·exact ih _ (Nat.div_lt_self Ya Ya) d hd
def zfI(l:List Nat):Prop:=l=[]∨dig l (l.length-1)≠0
instance (l:List Nat):Decidable (zfI l):=by unfold zfI;infer_instance
theorem zeA{l:List Nat}(hl:Lim l)(h:zfI l):ze (zo l)=l:=by
 induction l with
 | nil=>exact zr
 | cons d r ih=>
  have hd:=hl.cons;have hr:zfI r:=by
   by_cases hn:r=[]
   ·exact .inl hn
   ·right
    rcases h with h|h
    ·cases h
    ·have hp:0<r.length:=ZH.2 hn;have e:(d::r).length-1=(r.length-1)+1:=Yj;rw[e,zfY]at h;exact h
  rw[zbk,zlv hd.1,ih hd.2 hr]
  by_cases hn:r=[]
  ·subst hn
   rcases h with h|h
   ·cases h
   ·left;exact h
  ·right
   intro h0
   apply hn
   rw[<- ih hd.2 hr,h0,zr]
theorem zbQ(n:Nat):zfI (ze n):=by
 induction n using Nat.strongRecOn with
 | _ n ih=>
  by_cases h:n=0
  ·subst h;exact .inl zr
  ·right
   rw[zc8 h]
   rcases ih _ (Nat.div_lt_self (n:=n) (k:=4294967296) Ya Ya)with h0|h0
   ·rw[h0];show n%4294967296≠0
    have h1:n/4294967296=0:=by rw[<- zi (n/4294967296),h0];rfl
    omega
   ·by_cases hn:ze (n/4294967296)=[]
    ·rw[hn]at h0;simp[dig]at h0
    ·have hp:0<(ze (n/4294967296)).length:=ZH.2 hn;have e:(n%4294967296::ze (n/4294967296)).length-1=((ze (n/4294967296)).length-1)+1:=Yj;rw[e,zfY];exact h0
theorem ziP{n:Nat}:ze n=[] ↔ n=0:=⟨fun h=>by rw[<- zi n,h];rfl,fun h=>by rw[h,zr]⟩
theorem zfh{l:List Nat}{n:Nat}(hl:Lim l)(hn:n<=l.length)(h0:∀i,n<=i->i<l.length->dig l i=0)(h1:n=0∨dig l (n-1)≠0):l.take n=ze (zo l):=by
 have ht:(l.take n).length=n:=Yj;have hd:∀i,i<n->dig (l.take n) i=dig l i:=by
  intro i hi;unfold dig;simp only[Zf];rw[ZaU hi]
 have hv:zo (l.take n)=zo l:=by
  unfold zo;rw[ht,zeE hn h0];exact zac hd
 rw[<- hv,zeA (fun d hd=>hl d (Z4 hd))]
 rcases h1 with h1|h1
 ·left;apply ZA;omega
 ·by_cases hz:n=0
  ·left;apply ZA;omega
  ·right;rw[ht,hd _ Ya];exact h1
theorem zaC{n k:Nat}(h:n<4294967296^k):(ze n).length<=k:=by
 rcases Zan k (ze n).length with hlt|hge
 ·exfalso
  rcases zbQ n with h0|h0
  ·rw[h0]at hlt;simp at hlt
  ·have e:=zi n;unfold zo at e;obtain⟨m,hm⟩:∃m,(ze n).length=m+1:=⟨(ze n).length-1,Ya⟩
   rw[hm]at e h0;simp only[zx,Zal]at e h0;have h2:4294967296^m<=dig (ze n) m*4294967296^m:=Zag _ Ya;have h3:4294967296^k<=4294967296^m:=ZE Ya Ya;omega
 ·exact hge
theorem zaS(n:Nat):n<4294967296^(ze n).length:=by
 have:=zcP (zq n)
 rwa [zi]at this
theorem zaD{a b:Nat}(h:a<=b):(ze a).length<=(ze b).length:=zaC (ZaG h (zaS b))
theorem zz{l:List Nat}(h:Lim l):(ze (zo l)).length<=l.length:=zaC (zcP h)
theorem zsd{x c y c' z P:Nat}(h:x+4294967296*c'=c+y+z):x*P+c'*(P*4294967296)=c*P+y*P+z*P:=by
 have e:x*P+c'*(P*4294967296)=(x+4294967296*c')*P:=by
  rw[ZI,Zz 4294967296 c',ZM c',Zz P]
 rw[e,h,ZI,ZI]
/-! ### Comparing -/
def zdy(x y:Nat):Int:=if x<y then -1 else if y<x then 1 else 0
theorem zhu{f g:Nat->Nat}{n i:Nat}(hf:∀j,j<n->f j<4294967296)(hi:i<n)(hs:∀j,i<j->j<n->f j=g j)(h:f i<g i):zx f n<zx g n:=by
 obtain⟨m,rfl⟩:∃m,n=i+1+m:=⟨n-(i+1),Ya⟩
 rw[za9 f (i+1) m,za9 g (i+1) m,zac (n:=m) (f:=fun j=>f (i+1+j)) (g:=fun j=>g (i+1+j)) (fun j hj=>hs _ Ya Ya)];have h1:zx f i<4294967296^i:=zbp (fun j hj=>hf j Ya);have h2:(f i+1)*4294967296^i<=g i*4294967296^i:=Zp _ h;rw[Zaa]at h2;simp only[zx];omega
theorem zjv{a b:List Nat}(ha:Lim a)(hb:zfI b)(h:a.length<b.length):zo a<zo b:=by
 rcases hb with rfl|hb
 ·simp at h
 ·have h1:=zcP ha;obtain⟨m,hm⟩:∃m,b.length=m+1:=⟨b.length-1,Ya⟩
  have h2:4294967296^a.length<=4294967296^m:=ZE Ya Ya;unfold zo at *;rw[hm]at hb⊢;simp only[zx,Zal]at *;have h3:4294967296^m<=dig b m*4294967296^m:=Zag _ Ya;omega
/-! ### Adding -/
def zQ(f g:Nat->Nat):Nat->Nat
 | 0=>0
 | n+1=>(zQ f g n+f n+g n)/4294967296
def zfQ(f g:Nat->Nat)(n:Nat):Nat:=(zQ f g n+f n+g n)%4294967296
theorem zsi(f g:Nat->Nat)(n:Nat):zx (zfQ f g) n+zQ f g n*4294967296^n=zx f n+zx g n:=by
 induction n with
 | zero=>simp[zx,zQ]
 | succ n ih=>
  simp only[zx,zaM];have:=zsd (P:=4294967296^n) (show zfQ f g n+4294967296*zQ f g (n+1)=zQ f g n+f n+g n from by simp only[zQ,zfQ];omega);omega
theorem zh5(f g:Nat->Nat)(n:Nat):zfQ f g n<4294967296:=Z1 _ Ya
theorem zeR{f g:Nat->Nat}{n:Nat}(hf:∀i,f i<4294967296)(hg:∀i,g i<4294967296):zQ f g n<=1:=by
 induction n with
 | zero=>simp[zQ]
 | succ n ih=>have:=hf n;have:=hg n;simp only[zQ];omega
/-! ### Subtracting -/
def zdK(f g:Nat->Nat):Nat->Nat
 | 0=>0
 | n+1=>if f n<zdK f g n+g n then 1 else 0
def zgG(f g:Nat->Nat)(n:Nat):Nat:=f n+4294967296*zdK f g (n+1)-(zdK f g n+g n)
theorem zfa(f g:Nat->Nat)(n:Nat):zdK f g n<=1:=by
 cases n with
 | zero=>simp[zdK]
 | succ n=>simp only[zdK];split<;>omega
theorem zqt{f g:Nat->Nat}{n:Nat}(hg:g n<4294967296):zgG f g n+zdK f g n+g n=f n+4294967296*zdK f g (n+1):=by
 have:=zfa f g n;simp only[zgG,zdK]
 split<;>omega
theorem zhV{f g:Nat->Nat}{n:Nat}(hf:f n<4294967296)(hg:g n<4294967296):zgG f g n<4294967296:=by
 have:=zfa f g n;simp only[zgG,zdK]
 split<;>omega
theorem zs1{f g:Nat->Nat}(hg:∀i,g i<4294967296)(n:Nat):zx (zgG f g) n+zx g n=zx f n+zdK f g n*4294967296^n:=by
 induction n with
 | zero=>simp[zx,zdK]
 | succ n ih=>
  simp only[zx,zaM];have e:=zqt (f:=f) (hg n);have h1:(zgG f g n+zdK f g n+g n)*4294967296^n=(f n+4294967296*zdK f g (n+1))*4294967296^n:=Ue;rw[ZI,ZI,ZI,ZM 4294967296,Zz 4294967296]at h1;rw[ZM (zdK f g (n+1))]at h1;omega
theorem zka{f g:Nat->Nat}{n:Nat}(hf:∀i,f i<4294967296)(hg:∀i,g i<4294967296)(h:zx g n<=zx f n):zx (zgG f g) n=zx f n-zx g n/\zdK f g n=0:=by
 have h1:=zs1 hg n (f:=f);have h2:zx (zgG f g) n<4294967296^n:=zbp (fun i _=>zhV (hf i) (hg i));have h3:=zfa f g n;have h4:zdK f g n=0:=by
  rcases Zan (zdK f g n) 1 with h5|h5
  ·omega
  ·have:zdK f g n=1:=Ya;rw[this]at h1;omega
 rw[h4]at h1;exact⟨Ya,h4⟩
/-! ### Multiplying by a limb and adding -/
def zfO(x:Nat)(y o:Nat->Nat):Nat->Nat
 | 0=>0
 | n+1=>(zfO x y o n+x*y n+o n)/4294967296
def zip(x:Nat)(y o:Nat->Nat)(n:Nat):Nat:=(zfO x y o n+x*y n+o n)%4294967296
theorem zno(x:Nat)(y o:Nat->Nat)(n:Nat):zip x y o n<4294967296:=Z1 _ Ya
theorem zmX{x y:Nat}(hx:x<4294967296)(hy:y<4294967296):x*y<=18446744065119617025:=
 Zl (Z8 (show x<=4294967295 from Ya) (show y<=4294967295 from Ya)) Yb
theorem zhE{x:Nat}{y o:Nat->Nat}(hx:x<4294967296)(hy:∀i,y i<4294967296)(ho:∀i,o i<4294967296)(n:Nat):zfO x y o n<4294967296:=by
 induction n with
 | zero=>simp[zfO]
 | succ n ih=>
  have h1:=zmX hx (hy n);have h2:=ho n;simp only[zfO];omega
theorem zr4(x:Nat)(y o:Nat->Nat)(n:Nat):zx (zip x y o) n+zfO x y o n*4294967296^n=x*zx y n+zx o n:=by
 induction n with
 | zero=>simp[zx,zfO]
 | succ n ih=>
  simp only[zx,zaM];have:=zsd (P:=4294967296^n) (show zip x y o n+4294967296*zfO x y o (n+1)=zfO x y o n+x*y n+o n from by simp only[zfO,zip];omega);rw[Za6,<- ZM x];omega
def zbE(f:Nat->Nat)(x:Nat)(y:Nat->Nat)(i m:Nat):Nat->Nat:=fun j=>
 if j<i then f j else if j<i+m then zip x y (fun k=>f (i+k)) (j-i)else if j=i+m then zfO x y (fun k=>f (i+k)) m else f j
theorem zhr(f:Nat->Nat)(x:Nat)(y:Nat->Nat)(i m:Nat):zx (zbE f x y i m) (i+m+1)=zx f (i+m)+x*zx y m*4294967296^i:=by
 rw[ZaT,za9,zac (n:=i) (f:=zbE f x y i m) (g:=f) (fun j hj=>by unfold zbE;rw[Zq hj])];have e:zx (fun k=>zbE f x y i m (i+k)) (m+1)=x*zx y m+zx (fun k=>f (i+k)) m:=by
  simp only[zx];rw[zac (n:=m) (f:=fun k=>zbE f x y i m (i+k)) (g:=zip x y (fun k=>f (i+k))) (fun k hk=>by unfold zbE;rw[Zh Ya,Zq Ya,ZaD])];have:zbE f x y i m (i+m)=zfO x y (fun k=>f (i+k)) m:=by unfold zbE;rw[Zh Ya,Zh Ya,Zq rfl]
  rw[this];exact zr4 x y _ m
 rw[e,ZI,za9 f i m];omega
/-! ### zcm the last limb to the first -/
theorem zph{V q:Nat->Nat}{n:Nat}(h:∀i,i<n->V i=q i+4294967296*V (i+1)):V 0=zx q n+4294967296^n*V n:=by
 induction n with
 | zero=>simp[zx]
 | succ n ih=>
  rw[ih (fun i hi=>h i Ya),h n Ya];simp only[zx,zaM];rw[Za6,Zz (4294967296^n) (q n),ZM,Nat.mul_left_comm (4294967296^n)];rw[Nat.mul_left_comm 4294967296];omega
def zfD(l:List Nat)(i:Nat):Nat:=zo (l.drop i)
theorem ziQ(l:List Nat):zfD l 0=zo l:=by simp[zfD]
theorem zib{l:List Nat}{i:Nat}(h:l.length<=i):zfD l i=0:=by simp[zfD,List.drop_of_length_le h,zcj]
theorem zgm{l:List Nat}{i:Nat}(h:i<l.length):zfD l i=dig l i+4294967296*zfD l (i+1):=by
 unfold zfD;rw[ZaF h,zbk]
 congr 1
 exact(zqZ (Zn h)).symm
theorem zoa{l:List Nat}(hl:Lim l)(i:Nat):zfD l i%4294967296=dig l i:=by
 rcases Zan i l.length with h|h
 ·rw[zgm h];have:=zD hl i;omega
 ·rw[zib h,zcu h]
/-! ### Dividing by a limb -/
theorem zhe{l:List Nat}{d i:Nat}(hd:0<d)(h:i<l.length):
  zfD l i/d=(zfD l (i+1)%d*4294967296+dig l i)/d+4294967296*(zfD l (i+1)/d)/\zfD l i%d=(zfD l (i+1)%d*4294967296+dig l i)%d:=by
 rw[zgm h];generalize zfD l (i+1)=H;generalize dig l i=a;have e:a+4294967296*H=(H%d*4294967296+a)+d*(4294967296*(H/d)):=by
  have h1:=ZaJ H d;have h2:d*(4294967296*(H/d))=4294967296*(d*(H/d)):=by rw[Nat.mul_left_comm]
  rw[h2];generalize d*(H/d)=Z at *;omega
 rw[e];exact⟨by rw[Nat.add_mul_div_left _ _ hd],by rw[Nat.add_mul_mod_self_left]⟩
theorem zkM{l:List Nat}{d i:Nat}(hl:Lim l)(hd:0<d):(zfD l (i+1)%d*4294967296+dig l i)/d<4294967296:=by
 have h1:=Z1 (zfD l (i+1)) hd;have h2:=zD hl i;rw[Zao hd];have:(zfD l (i+1)%d+1)*4294967296<=d*4294967296:=Zp _ h1;rw[Zaa]at this;rw[Zz 4294967296];omega
/-! ### Shifting to the right by less than a limb -/
theorem zor{l:List Nat}{k i:Nat}(hl:Lim l)(hk:k<32)(h:i<l.length):
  zfD l i/2^k=(dig l i+dig l (i+1)*4294967296)/2^k%4294967296+4294967296*(zfD l (i+1)/2^k):=by
 rw[zgm h];have hp:0<2^k:=ZaV k;have hB:(4294967296:Nat)=2^k*2^(32-k):=by rw[<- Zaf,show k+(32-k)=32 from Ya]
 have hd:=zoa hl (i+1);generalize zfD l (i+1)=H at *;rw[<- hd];have ha:=zD hl i;generalize dig l i=a at *;have e1:(a+4294967296*H)/2^k=a/2^k+2^(32-k)*H:=by
  rw[show 4294967296*H=2^k*(2^(32-k)*H) by rw[<- ZM,<- hB],Nat.add_mul_div_left _ _ hp]
 have e2:(a+H%4294967296*4294967296)/2^k=a/2^k+2^(32-k)*(H%4294967296):=by
  rw[show H%4294967296*4294967296=2^k*(2^(32-k)*(H%4294967296)) by rw[<- ZM,<- hB,Zz],Nat.add_mul_div_left _ _ hp]
 rw[e1,e2];have hmod:H%4294967296%2^k=H%2^k:=Nat.mod_mod_of_dvd _ ⟨2^(32-k),hB⟩;have spl:∀x:Nat,2^(32-k)*x=4294967296*(x/2^k)+2^(32-k)*(x%2^k):=by
  intro x
  conv=>lhs;rw[<- ZaJ x (2^k),Za6,<- ZM,Zz (2^(32-k)),<- hB]
 have h1:=spl H;have h2:=spl (H%4294967296);rw[hmod]at h2;have h3:a/2^k<2^(32-k):=Nat.div_lt_of_lt_mul (by rw[<- hB];exact ha);have h4:2^(32-k)*(H%2^k+1)<=2^(32-k)*2^k:=ZT _ (Z1 _ hp);rw[Zz _ (2^k),<- hB,Za6,Zbp]at h4;rw[h1,h2];generalize a/2^k=u at *;generalize 2^(32-k)*(H%2^k)=v at *;generalize H/2^k=y at *;generalize H%4294967296/2^k=z at *;omega
theorem zqI{l:List Nat}{k:Nat}(hl:Lim l)(hk:k<32):zx (fun i=>(dig l i+dig l (i+1)*4294967296)/2^k%4294967296) l.length=zo l/2^k:=by
 have h:=zph (V:=fun i=>zfD l i/2^k) (n:=l.length) (fun i hi=>zor hl hk hi);exact EV
theorem zl8{l:List Nat}{d:Nat}(hd:0<d):zx (fun i=>(zfD l (i+1)%d*4294967296+dig l i)/d) l.length=zo l/d:=by
 have h:=zph (V:=fun i=>zfD l i/d) (n:=l.length) (fun i hi=>(zhe hd hi).1);exact EV
/-! ### Shifting to the left by less than a limb -/
def zji(f:Nat->Nat)(k:Nat):Nat->Nat
 | 0=>0
 | n+1=>f n*2^k/4294967296
def zmw(f:Nat->Nat)(k n:Nat):Nat:=f n*2^k%4294967296+zji f k n
theorem zh1{f:Nat->Nat}{k:Nat}(hf:∀i,f i<4294967296)(n:Nat):zji f k n<2^k:=by
 cases n with
 | zero=>exact ZaV k
 | succ n=>simp only[zji];rw[Zao Ya,Zz];exact Nat.mul_lt_mul_of_pos_left (hf n) (ZaV k)
theorem zpJ{a k:Nat}(hk:k<32):a*2^k%4294967296=a%2^(32-k)*2^k:=by
 have hB:(4294967296:Nat)=2^(32-k)*2^k:=KP;rw[hB,Nat.mul_mod_mul_right]
theorem zqx{f:Nat->Nat}{k:Nat}(hf:∀i,f i<4294967296)(hk:k<32)(n:Nat):zmw f k n<4294967296:=by
 have hB:(4294967296:Nat)=2^(32-k)*2^k:=KP;have h1:=zh1 hf n (k:=k);have h2:(f n%2^(32-k)+1)*2^k<=2^(32-k)*2^k:=Zp _ (Z1 _ (ZaV _));rw[ZI,Zah,<- hB]at h2;unfold zmw;rw[zpJ hk];omega
theorem zte(f:Nat->Nat)(k n:Nat):zx (zmw f k) n+zji f k n*4294967296^n=zx f n*2^k:=by
 induction n with
 | zero=>simp[zx,zji]
 | succ n ih=>
  simp only[zx,zaM];have h1:=zsd (P:=4294967296^n) (show zmw f k n+4294967296*zji f k (n+1)=zji f k n+f n*2^k+0 from by simp only[zji,zmw];omega);rw[ZI,<- ih,Zbi (f n)];omega
/-! ### The estimate -/
theorem zk5{U V P t w q:Nat}(hU:U<(t+1)*P)(hV:w*P<=V)(hq:t<q*w):U<q*V:=by
 have h1:(t+1)*P<=q*w*P:=Zp _ hq;have h2:q*w*P<=q*V:=by rw[ZM];exact ZT _ hV
 omega
theorem zjz{U V P t w q:Nat}(hU:t*P<=U)(hV:V<(w+1)*P)(hq:q*w<=t)(hqP:q*P<=V):q*V<=U+V:=by
 have h1:q*V<=q*((w+1)*P):=ZT _ (Z6 hV);have h2:q*((w+1)*P)=q*w*P+q*P:=by rw[ZI,Zah,Za6,ZM]
 have h3:q*w*P<=t*P:=Zp _ hq;omega
structure zdo (u v:Nat->Nat) (n:Nat):Prop where
 n2:2<=n
 ul:∀i,u i<4294967296
 vl:∀i,v i<4294967296
 norm:2147483648<=v (n-1)
 lt:zx u (n+1)<zx v n*4294967296
section
variable {u v:Nat->Nat} {n:Nat}
def zhK(u:Nat->Nat)(n:Nat):Nat:=u n*4294967296+u (n-1)
theorem zdo.parts(h:zdo u v n):∃ul vl P:Nat,ul<P/\vl<P/\0<P/\4294967296^(n-1)=4294967296*P/\zx u (n+1)=ul+(zhK u n*4294967296+u (n-2))*P/\zx v n=vl+(v (n-1)*4294967296+v (n-2))*P:=by
 obtain⟨m,rfl⟩:∃m,n=m+2:=⟨n-2,by have:=h.n2;omega⟩
 refine⟨zx u m,zx v m,4294967296^m,zbp (fun i _=>h.ul i),zbp (fun i _=>h.vl i),zbG m,?_,?_,?_⟩
 ·show 4294967296^(m+1)=_
  rw[zaM,Zz]
 ·unfold zhK;show zx u (m+1+1+1)=zx u m+((u (m+2)*4294967296+u (m+1))*4294967296+u m)*4294967296^m
  simp only[zx,zaM];generalize 4294967296^m=P;have e:(u (m+2)*4294967296+u (m+1))*4294967296*P=u (m+2)*(P*4294967296*4294967296)+u (m+1)*(P*4294967296):=by
   rw[ZM,Zz 4294967296 P,ZI,ZM (u (m+2)) 4294967296,Zz 4294967296 (P*4294967296)]
  rw[ZI,e];omega
 ·show zx v (m+1+1)=zx v m+(v (m+1)*4294967296+v m)*4294967296^m
  simp only[zx,zaM];generalize 4294967296^m=P;rw[ZI,ZM _ 4294967296 P,Zz 4294967296 P];omega
theorem zdo.pos(h:zdo u v n):0<zx v n:=by
 obtain⟨ul,vl,P,h1,h2,h3,h4,h5,h6⟩:=h.parts;have h7:1*P<=(v (n-1)*4294967296+v (n-2))*P:=Zp _ (by have:=h.norm;omega);omega
theorem zdo.quo_lt(h:zdo u v n):zx u (n+1)/zx v n<4294967296:=by
 rw[Zao h.pos,Zz];exact h.lt
theorem zdo.start(h:zdo u v n):zx u (n+1)/zx v n<=zhK u n/v (n-1)/\zhK u n/v (n-1)<=4294967297:=by
 obtain⟨ul,vl,P,h1,h2,h3,h4,h5,h6⟩:=h.parts;have hv:=h.norm
 constructor
 ·rw[Nat.le_div_iff_mul_le Ya];have hq:=Nat.div_mul_le_self (zx u (n+1)) (zx v n);generalize zx u (n+1)/zx v n=Q at *;have g1:v (n-1)*(4294967296*P)<=zx v n:=by
   rw[h6,ZI,ZM];omega
  have g2:Q*v (n-1)*(4294967296*P)<=Q*zx v n:=by rw[ZM];exact ZT _ g1
  have hu2:=h.ul (n-2);have g3:zx u (n+1)<(zhK u n+1)*(4294967296*P):=by
   rw[h5,ZI,ZI,Zah,ZM];have:(u (n-2)+1)*P<=4294967296*P:=Zp _ hu2;exact EB
  have g4:Q*v (n-1)*(4294967296*P)<(zhK u n+1)*(4294967296*P):=Ya;have:=Nat.lt_of_mul_lt_mul_right g4;omega
 ·have hlt:=h.lt;have hvl:=h.vl (n-2);have hun1:=h.ul (n-1);have g1:u n<=v (n-1):=by
   have e1:u n*(4294967296*(4294967296*P))<=zx u (n+1):=by
    rw[h5];unfold zhK;rw[ZI,ZM _ 4294967296 P,ZI (u n*4294967296),ZM (u n)];omega
   have e2:zx v n<(v (n-1)+1)*(4294967296*P):=by
    rw[h6,ZI,ZM,ZI,Zah];have:(v (n-2)+1)*P<=4294967296*P:=Zp _ hvl;exact EB
   have e3:zx v n*4294967296<=(v (n-1)+1)*(4294967296*P)*4294967296:=Zp _ (Z6 e2);rw[ZM,Zz (4294967296*P) 4294967296]at e3;have e4:u n*(4294967296*(4294967296*P))<(v (n-1)+1)*(4294967296*(4294967296*P)):=Ya;have:=Nat.lt_of_mul_lt_mul_right e4;omega
  have g2:zhK u n<4294967298*v (n-1):=by
   unfold zhK;omega
  have:=(Zao (show 0<v (n-1)from Ya)).2 g2;omega
theorem zdo.too_great(h:zdo u v n){q r:Nat}(hr:q*v (n-1)+r=zhK u n)(ht:r*4294967296+u (n-2)<q*v (n-2)):zx u (n+1)/zx v n<q:=by
 obtain⟨ul,vl,P,h1,h2,h3,h4,h5,h6⟩:=h.parts;rw[Zao h.pos]
 refine zk5 (P:=P) (t:=zhK u n*4294967296+u (n-2)) (w:=v (n-1)*4294967296+v (n-2)) ?_ Ya ?_
 ·rw[ZI,Zah];omega
 ·rw[<- hr,Za6,ZI,ZM];omega
theorem zdo.good(h:zdo u v n){q r:Nat}(hr:q*v (n-1)+r=zhK u n)(ht:q*v (n-2)<=r*4294967296+u (n-2))(hq:q<=4294967296):q<=zx u (n+1)/zx v n+1:=by
 obtain⟨ul,vl,P,h1,h2,h3,h4,h5,h6⟩:=h.parts;have hv:=h.norm;have key:q*zx v n<=zx u (n+1)+zx v n:=by
  refine zjz (P:=P) (t:=zhK u n*4294967296+u (n-2)) (w:=v (n-1)*4294967296+v (n-2)) Ya ?_ ?_ ?_
  ·rw[ZI,Zah];omega
  ·rw[<- hr,Za6,ZI,ZM];omega
  ·have g1:q*P<=4294967296*P:=Zp _ hq;have g2:4294967296*P<=(v (n-1)*4294967296+v (n-2))*P:=Zp _ Ya;omega
 have hp:=h.pos;have h7:(q-1)*zx v n<=zx u (n+1):=by
  rw[Zz,Nat.mul_sub_one,Zz];omega
 have:=(Nat.le_div_iff_mul_le hp).2 h7;omega
end
/-! ### The subtraction -/
section
variable {u v:Nat->Nat} {n q:Nat}
def zfR(q:Nat)(v:Nat->Nat):Nat->Nat:=zip q v (fun _=>0)
def zbr(q:Nat)(v:Nat->Nat):Nat->Nat:=zfO q v (fun _=>0)
theorem zg8(q:Nat)(v:Nat->Nat)(n:Nat):zbr q v (n+1)=(zbr q v n+q*v n)/4294967296:=rfl
theorem znV(q:Nat)(v:Nat->Nat)(n:Nat):zfR q v n=(zbr q v n+q*v n)%4294967296:=rfl
theorem zhQ(q:Nat)(v:Nat->Nat)(n:Nat):zfR q v n<4294967296:=Z1 _ Ya
theorem zoM(q:Nat)(v:Nat->Nat)(n:Nat):zx (zfR q v) n+zbr q v n*4294967296^n=q*zx v n:=by
 have:=zr4 q v (fun _=>0) n;rw[zeJ (f:=fun _=>0) (fun _ _=>rfl)]at this;exact this
theorem zkv(hq:q<=4294967296)(hv:∀i,v i<4294967296)(n:Nat):zbr q v n<4294967296:=by
 induction n with
 | zero=>exact(by decide:(0:Nat)<4294967296)
 | succ n ih=>
  have h1:q*v n<=4294967296*4294967295:=Z8 hq (by have:=hv n;omega);rw[zg8];omega
def zfP(u v:Nat->Nat)(q:Nat):Nat->Nat:=zgG u (zfR q v)
def zfr(u v:Nat->Nat)(q:Nat):Nat->Nat:=zdK u (zfR q v)
theorem zhA(hu:∀i,u i<4294967296)(i:Nat):zfP u v q i<4294967296:=zhV (hu i) (zhQ q v i)
theorem zlW(u v:Nat->Nat)(q n:Nat):zfr u v q n<=1:=zfa _ _ _
theorem zml(u v:Nat->Nat)(q n:Nat):zx (zfP u v q) n+q*zx v n=zx u n+(zfr u v q n+zbr q v n)*4294967296^n:=by
 have h1:=zs1 (f:=u) (zhQ q v) n;have h2:=zoM q v n;unfold zfP zfr;rw[ZI];omega
theorem ziA(u v:Nat->Nat)(q n:Nat):zx (zfP u v q) n+u n*4294967296^n+q*zx v n=zx u (n+1)+(zfr u v q n+zbr q v n)*4294967296^n:=by
 have:=zml u v q n;simp only[zx];omega
theorem zql(h:zfr u v q n+zbr q v n<=u n):q*zx v n<=zx u (n+1)/\zx (zfP u v q) n+(u n-(zfr u v q n+zbr q v n))*4294967296^n=zx u (n+1)-q*zx v n:=by
 have h1:=ziA u v q n;have h2:u n*4294967296^n=(u n-(zfr u v q n+zbr q v n))*4294967296^n+(zfr u v q n+zbr q v n)*4294967296^n:=by
  rw[<- ZI];congr 1;omega
 have h3:zx u (n+1)=zx u n+u n*4294967296^n:=rfl;have h4:=zml u v q n;omega
theorem zrc(hu:∀i,u i<4294967296)(h:u n<zfr u v q n+zbr q v n)(hc:zbr q v n<4294967296):zx u (n+1)<q*zx v n/\
  zx (zfP u v q) n+(u n+4294967296-(zfr u v q n+zbr q v n))*4294967296^n+q*zx v n=zx u (n+1)+4294967296*4294967296^n:=by
 have h1:=ziA u v q n;have hb:=zlW u v q n;have hd:zx (zfP u v q) n<4294967296^n:=zbp (fun i _=>zhA hu i);have h2:(zfr u v q n+zbr q v n)*4294967296^n=u n*4294967296^n+(zfr u v q n+zbr q v n-u n)*4294967296^n:=by
  rw[<- ZI];congr 1;omega
 have h3:1*4294967296^n<=(zfr u v q n+zbr q v n-u n)*4294967296^n:=Zp _ Ya;have h5:(u n+4294967296-(zfr u v q n+zbr q v n))*4294967296^n+(zfr u v q n+zbr q v n)*4294967296^n=u n*4294967296^n+4294967296*4294967296^n:=by
  rw[<- ZI,<- ZI];congr 1;omega
 constructor
 ·omega
 ·omega
theorem zdo.exact(h:zdo u v n)(hq:zx u (n+1)/zx v n<=q)(hq1:q<=zx u (n+1)/zx v n+1)(hs:zfr u v q n+zbr q v n<=u n):
  q=zx u (n+1)/zx v n/\zx (zfP u v q) n=zx u (n+1)%zx v n/\u n-(zfr u v q n+zbr q v n)=0:=by
 obtain⟨h1,h2⟩:=zql hs;have hp:=h.pos;have e1:q=zx u (n+1)/zx v n:=by
  have:q<=zx u (n+1)/zx v n:=(Nat.le_div_iff_mul_le hp).2 h1;omega
 have e2:zx u (n+1)-q*zx v n=zx u (n+1)%zx v n:=by
  have:=ZaJ (zx u (n+1)) (zx v n);rw[<- e1,Zz]at this;omega
 rw[e2]at h2;have h3:=Z1 (zx u (n+1)) hp;have h4:zx v n<4294967296^n:=zbp (fun i _=>h.vl i);have h5:u n-(zfr u v q n+zbr q v n)=0:=by
  rcases ZaH (u n-(zfr u v q n+zbr q v n))with hz|hz
  ·exact hz
  ·have:1*4294967296^n<=(u n-(zfr u v q n+zbr q v n))*4294967296^n:=Zp _ hz;omega
 rw[h5]at h2;exact⟨e1,Ya,h5⟩
theorem zdo.again(h:zdo u v n)(hq:zx u (n+1)/zx v n<=q)(hq1:q<=zx u (n+1)/zx v n+1)(hqB:q<=4294967296)(hs:u n<zfr u v q n+zbr q v n):
  q=zx u (n+1)/zx v n+1/\zx (zfQ (zfP u v q) v) n=zx u (n+1)%zx v n/\u n+4294967296-(zfr u v q n+zbr q v n)+zQ (zfP u v q) v n=4294967296:=by
 obtain⟨h1,h2⟩:=zrc h.ul hs (zkv hqB h.vl n);have hp:=h.pos;have e1:q=zx u (n+1)/zx v n+1:=by
  have:zx u (n+1)/zx v n<q:=(Zao hp).2 h1;omega
 have e3:q*zx v n=zx u (n+1)/zx v n*zx v n+zx v n:=by
  rw[e1];generalize zx u (n+1)/zx v n=Q;rw[ZI,Zah]
 have e4:=ZaJ (zx u (n+1)) (zx v n);rw[Zz]at e4;have h3:=Z1 (zx u (n+1)) hp;have h4:zx v n<4294967296^n:=zbp (fun i _=>h.vl i);have h5:=zsi (zfP u v q) v n;have h6:zx (zfQ (zfP u v q) v) n<4294967296^n:=zbp (fun i _=>zh5 _ _ i);generalize hx:u n+4294967296-(zfr u v q n+zbr q v n)=x at *;generalize zQ (zfP u v q) v n=c at *;have h7:zx (zfQ (zfP u v q) v) n+(x+c)*4294967296^n=zx u (n+1)%zx v n+4294967296*4294967296^n:=by
  rw[ZI];omega
 have h8:x+c=4294967296:=by
  rcases Zbr (x+c) 4294967296 with hlt|he|hgt
  ·have:(x+c+1)*4294967296^n<=4294967296*4294967296^n:=Zp _ hlt;exact EB
  ·exact he
  ·have:(4294967296+1)*4294967296^n<=(x+c)*4294967296^n:=Zp _ hgt;exact EB
 rw[h8]at h7;exact⟨e1,Ya,h8⟩
end
def zaw(V j:Nat):Nat:=V/4294967296^j%4294967296
def zrS(n V:Nat):List Nat:=(List.range n).map (zaw V)
theorem zdI(V j:Nat):zaw V j<4294967296:=Z1 _ Ya
theorem zeu(V n:Nat):zx (zaw V) n=V%4294967296^n:=by
 induction n with
 | zero=>simp[zx,Nat.mod_one]
 | succ n ih=>simp only[zx];rw[Nat.mod_pow_succ,ih,Zz (4294967296^n)];rfl
theorem zo4(n V:Nat):(zrS n V).length=n:=by simp[zrS]
theorem zaP{V j:Nat}(h:V<4294967296^j):zaw V j=0:=by unfold zaw;rw[ZaA h]
theorem zdm{f:Nat->Nat}(hf:∀i,f i<4294967296){n j:Nat}(hj:j<n):zaw (zx f n) j=f j:=by
 obtain⟨m,rfl⟩:∃m,n=j+(1+m):=⟨n-(j+1),Ya⟩
 unfold zaw;rw[za9,Nat.add_mul_div_right _ _ (zbG j),ZaA (zbp (fun i _=>hf i)),ZO,za9];simp only[zx,Nat.pow_zero,Zbp,ZO,Nat.pow_one,ZW];rw[Nat.add_mul_mod_self_right,Zaz (hf j)]
theorem zgx{l:List Nat}(hl:Lim l)(j:Nat):zaw (zo l) j=dig l j:=by
 rcases Zan j l.length with h|h
 ·exact zdm (fun i=>zD hl i) h
 ·rw[zcu h];exact zaP (Zd (zcP hl) (ZE Ya h))
theorem ziu{l:List Nat}(hl:Lim l):zrS l.length (zo l)=l:=by
 apply List.ext_getElem?
 intro i
 rcases Zan i l.length with h|h
 ·rw[zrS,ZV,ZaS h,zdQ h,Option.map_some,zgx hl]
 ·rw[Za2 h,Za2 (by rw[zo4];exact h)]
theorem zft(V i j:Nat):zaw (V/4294967296^i) j=zaw V (i+j):=by
 unfold zaw;rw[Zbb,<- Zaf]
/-! ### Long division -/
theorem zif{W V i:Nat}(hV:0<V)(hW:W<V*4294967296^(i+1)):
  W/4294967296^i<V*4294967296/\(W/4294967296^i%V)*4294967296^i+W%4294967296^i<V*4294967296^i/\
   W=(W/4294967296^i%V)*4294967296^i+W%4294967296^i+V*(W/4294967296^i/V*4294967296^i):=by
 have hP:=zbG i;have h0:=ZaJ W (4294967296^i);have h1:=Z1 W hP;rw[zaM]at hW;generalize 4294967296^i=P at *;have h2:=ZaJ (W/P) V;have h3:=Z1 (W/P) hV
 refine⟨?_,?_,?_⟩
 ·rw[Zao hP,ZM,Zz 4294967296];exact hW
 ·have:(W/P%V+1)*P<=V*P:=Zp _ h3;exact EB
 ·have e:V*(W/P/V*P)=V*(W/P/V)*P:=by rw[ZM]
  rw[e];have e2:P*(W/P)=(W/P%V)*P+V*(W/P/V)*P:=by
   rw[<- ZI,Zbw,h2,Zz]
  omega
theorem zmf{W X i n:Nat}(hX:X<4294967296^n)(j:Nat)(hW:W<4294967296^(i+n+1)):
  zaw (X*4294967296^i+W%4294967296^i) j=if j<i then zaw W j else if j<i+n then zaw X (j-i)else 0:=by
 have hP:=zbG i;have hm:=Z1 W hP
 by_cases h1:j<i
 ·rw[Zq h1];have e:∀Z:Nat,zaw Z j=zaw (Z%4294967296^i) j:=by
   intro Z;obtain⟨m,rfl⟩:∃m,i=j+(m+1):=⟨i-(j+1),Ya⟩
   unfold zaw;rw[Zaf,Nat.mod_mul_right_div_self,zaM,Zz,Nat.mod_mul_right_mod]
  rw[e (X*4294967296^i+W%4294967296^i),e W,Zz X,Nat.mul_add_mod_self_left,Nat.mod_mod]
 ·rw[Zh h1];obtain⟨k,rfl⟩:∃k,j=i+k:=⟨j-i,Ya⟩
  rw[<- zft,Zz X,Nat.mul_add_div hP,ZaA hm,ZW,ZaD]
  by_cases h2:k<n
  ·rw[Zq Ya]
  ·rw[Zh Ya];exact zaP (Zd hX (ZE Ya Ya))
theorem zk0(a b s:Nat):(a*2^s)/(b*2^s)=a/b/\(a*2^s)%(b*2^s)/2^s=a%b:=by
 have hp:=ZaV s;exact⟨Nat.mul_div_mul_right _ _ hp,by rw[Nat.mul_mod_mul_right,Nat.mul_div_cancel _ hp]⟩
/-! ### Bits -/
theorem zpp{a b k:Nat}(hb:b<2^k)(ha:a%2^k=0):a ||| b=a+b:=by
 have e:a=2^k*(a/2^k):=by have:=ZaJ a (2^k);omega
 rw[e];exact(Nat.two_pow_add_eq_or_of_lt hb _).symm
theorem zgz{a b k:Nat}(hb:b<2^k)(ha:a%2^k=0):b ||| a=b+a:=by rw[Nat.or_comm,zpp hb ha,Zbw]
theorem zkb{o:Nat->Nat}{k:Nat}(q:Nat):∀{N:Nat},k<N->o k=0->zx (fun j=>if j=k then q else o j) N=zx o N+q*4294967296^k
 | 0,h,_=>by omega
 | N+1,h,h0=>by
  simp only[zx]
  by_cases hk:k=N
  ·subst hk;rw[Zq rfl,zac (n:=k) (g:=o) (fun i hi=>by rw[Zh Ya]),h0];simp
  ·rw[Zh (fun e=>hk e.symm),zkb q Ya h0];omega
structure zdu (X V N k W:Nat) (o:Nat->Nat):Prop where
 sum:X=W+V*zx o N
 lt:W<V*4294967296^k
 zero:∀j,j<k->o j=0
 lim:∀j,o j<4294967296
def zrU(V k W:Nat):Nat:=(W/4294967296^k%V)*4294967296^k+W%4294967296^k
def zqL(V k W:Nat)(o:Nat->Nat):Nat->Nat:=fun j=>if j=k then W/4294967296^k/V else o j
theorem zdu.quo{X V N k W:Nat}{o:Nat->Nat}(hV:0<V)(h:zdu X V N (k+1) W o):W/4294967296^k/V<4294967296:=by
 rw[Zao hV,Zz];exact(zif hV h.lt).1
theorem zdu.step{X V N k W:Nat}{o:Nat->Nat}(hV:0<V)(hk:k<N)(h:zdu X V N (k+1) W o):zdu X V N k (zrU V k W) (zqL V k W o):=by
 obtain⟨h1,h2,h3⟩:=zif hV h.lt;have hq:=h.quo hV
 refine⟨?_,h2,fun j hj=>?_,fun j=>?_⟩
 ·unfold zqL;rw[zkb _ hk (h.zero k Ya),Za6];have:=h.sum;unfold zrU;omega
 ·unfold zqL;rw[Zh Ya];exact h.zero j Ya
 ·unfold zqL;split
  ·exact hq
  ·exact h.lim j
theorem zdu.done{X V N W:Nat}{o:Nat->Nat}(h:zdu X V N 0 W o):zx o N=X/V/\W=X%V:=by
 have h1:=h.sum;have h2:=h.lt;rw[Nat.pow_zero,Zbp]at h2;have hV:0<V:=Ya;rw[h1];exact⟨by rw[Nat.add_mul_div_left _ _ hV,ZaA h2,ZO],by rw[Nat.add_mul_mod_self_left,Zaz h2]⟩
theorem zdu.start{X V N:Nat}(h:X<V*4294967296^N):zdu X V N N X (fun _=>0):=
 ⟨by rw[zeJ (fun _ _=>rfl)];simp,h,fun _ _=>rfl,fun _=>Ya⟩
theorem zcU{W i m:Nat}(h:W<4294967296^(i+m)):zx (fun j=>zaw W (i+j)) m=W/4294967296^i:=by
 rw[zac (g:=zaw (W/4294967296^i)) (fun j _=>(zft W i j).symm),zeu,Zaz];rw[Zao (zbG i),<- Zaf,Zbw m];exact h
structure zl3 (y n s V:Nat):Prop where
 s32:s<32
 eq:V=y*2^s
 lt:V<4294967296^n
 top:2147483648*4294967296^(n-1)<=V
theorem zeZ(y:Nat)(hn:0<(ze y).length):∃lo,lo<4294967296^((ze y).length-1)/\y=lo+dig (ze y) ((ze y).length-1)*4294967296^((ze y).length-1):=by
 obtain⟨m,hm⟩:∃m,(ze y).length=m+1:=⟨(ze y).length-1,Ya⟩
 refine⟨zx (dig (ze y)) m,?_,?_⟩
 ·rw[hm];exact zbp (fun i _=>zD (zq y) i)
 ·have:=zi y;unfold zo at this;rw[hm]at this⊢;simp only[zx]at this;rw[Zal];exact this.symm
theorem zqs{y L:Nat}(hn:0<(ze y).length)(hL1:1<=L)(hL2:2^(L-1)<=dig (ze y) ((ze y).length-1))(hL3:dig (ze y) ((ze y).length-1)<2^L):zl3 y (ze y).length (32-L) (y*2^(32-L))/\L<=32:=by
 obtain⟨lo,h1,h2⟩:=zeZ y hn;have hd:=zD (zq y) ((ze y).length-1);generalize dig (ze y) ((ze y).length-1)=d at *;have hL32:L<=32:=by
  have:2^(L-1)<2^32:=ZaG hL2 Ya;have:=(Nat.pow_lt_pow_iff_right (a:=2) Ya).1 this;omega
 have hp:2^L*2^(32-L)=4294967296:=by rw[<- Zaf,show L+(32-L)=32 from Ya]
 have hp2:2^(L-1)*2^(32-L)=2147483648:=by rw[<- Zaf,show L-1+(32-L)=31 from Ya]
 have h3:d*2^(32-L)+2^(32-L)<=4294967296:=by
  have:(d+1)*2^(32-L)<=2^L*2^(32-L):=Zp _ hL3
  rwa [ZI,Zah,hp]at this
 have h4:2147483648<=d*2^(32-L):=by rw[<- hp2];exact Zp _ hL2
 obtain⟨m,hm⟩:∃m,(ze y).length=m+1:=⟨(ze y).length-1,Ya⟩
 rw[hm,Zal]at h1 h2;rw[hm];have hs:=ZaV (32-L)
 refine⟨⟨Ya,rfl,?_,?_⟩,hL32⟩
 ·rw[zaM,h2,ZI];have a1:lo*2^(32-L)<4294967296^m*2^(32-L):=Nat.mul_lt_mul_of_pos_right h1 hs;have a2:(d*2^(32-L)+2^(32-L))*4294967296^m<=4294967296*4294967296^m:=Zp _ h3;rw[ZI,Zz (2^(32-L))]at a2;rw[Zbi d,Zz _ 4294967296];omega
 ·rw[Zal,h2,ZI,Zbi d];have a2:2147483648*4294967296^m<=d*2^(32-L)*4294967296^m:=Zp _ h4;exact Zl a2 (Zbz _ _)
theorem zl3.pos{y n s V:Nat}(h:zl3 y n s V):0<V:=Zd (Zaw Ya (zbG _)) h.top
theorem zl3.len{y n s V:Nat}(hn:0<n)(h:zl3 y n s V):(ze V).length=n:=by
 have h1:=zaC h.lt;have h2:¬ (ze V).length<=n-1:=fun hle=>by
  have:=Zd (zaS V) (ZE (by omega:0<4294967296) hle);have h3:=h.top;have:=zbG (n-1);omega
 omega
theorem zl3.digit{y n s V:Nat}(hn:0<n)(h:zl3 y n s V):2147483648<=dig (ze V) (n-1):=by
 have e:dig (ze V) (n-1)=zaw V (n-1):=by rw[<- zgx (zq V),zi]
 rw[e];unfold zaw;have h1:V/4294967296^(n-1)<4294967296:=by
  rw[Zao (zbG _),Zz,<- zaM,show n-1+1=n from Ya];exact h.lt
 rw[Zaz h1];exact(Nat.le_div_iff_mul_le (zbG _)).2 h.top
theorem zl3.start{x y n s V:Nat}(hn:0<n)(h:zl3 y n s V)(hy:4294967296^(n-1)<=y)(hl:n<=(ze x).length):x*2^s<V*4294967296^((ze x).length-n+1):=by
 rw[h.eq,Zbi]
 refine Nat.mul_lt_mul_of_pos_right ?_ (ZaV s)
 refine Zd (zaS x) ?_
 rw[show(ze x).length=n-1+((ze x).length-n+1)from Ya,Zaf];rw[show n-1+((ze x).length-n+1)-n+1=(ze x).length-n+1 from Ya];exact Zp _ hy
theorem zmT{y:Nat}(hn:0<(ze y).length):4294967296^((ze y).length-1)<=y:=by
 refine Nat.le_of_not_lt fun h=>?_
 have:=zaC h;omega
structure zaI where
 neg:Bool
 num:List Nat
 den:List Nat
deriving DecidableEq
abbrev zcB(x:zaI)(an:Option Addr)(cn:Nat)(ad:Option Addr)(cd:Nat)(T:Nat):Obj:=.cells #[.bool x.neg,.slice an x.num.length cn,.slice ad x.den.length cd] T
abbrev zeP(T:Nat):Obj:=.cells #[.bool false,.slice none 0 0,.slice none 0 0] T
def zaI.Lim(x:zaI):Prop:=Go.Proofs.YtfgmmghmmfmdgaaGreat.Lim x.num/\Go.Proofs.YtfgmmghmmfmdgaaGreat.Lim x.den
def zw(d:List Nat):Nat:=if zo d=0 then 1 else zo d
theorem z6(d:List Nat):0<zw d:=by unfold zw;split<;>omega
def zbD(neg:Bool)(n d:Nat):zaI:=
 ⟨neg && decide (n≠0),ze (n/Nat.gcd n d),if d/Nat.gcd n d=1 then[]else ze (d/Nat.gcd n d)⟩
def za0(x:zaI):zaI:=zbD x.neg (zo x.num) (zw x.den)
def zL(x:zaI):Bool:=decide (x=za0 x)
theorem zg2(neg:Bool){d:Nat}(hd:0<d):zbD neg 0 d=⟨false,[],[]⟩:=by
 simp[zbD,Nat.div_self hd,zr]
theorem zir(neg:Bool){n:Nat}(hn:n≠0):zbD neg n 1=⟨neg,ze n,[]⟩:=by
 simp[zbD,hn]
theorem znC(neg:Bool)(n d:Nat):(zbD neg n d).Lim:=by
 refine⟨zq _,?_⟩
 simp only[zbD]
 split
 ·intro x hx;simp at hx
 ·exact zq _
theorem zmj{a b:List Nat}(ha:Lim a)(hb:Lim b)(hl:a.length=b.length)(hv:zo a=zo b):a=b:=by
 rw[<- ziu ha,<- ziu hb,hl,hv]
theorem zlJ{x:zaI}(hx:x.Lim)(h:x.den=[]):zL x=(decide (zfI x.num) && (!x.neg || decide (0<x.num.length))):=by
 obtain⟨neg,num,den⟩:=x;simp only at h;subst h;have hu:zw []=1:=by simp[zw,zcj]
 rw[ZY];simp only[zL,za0,hu,Zy,Zw,Bool.or_eq_true,Bool.not_eq_true']
 by_cases hn:zo num=0
 ·rw[hn,zg2 neg Ya]
  constructor
  ·intro h;cases h;exact⟨.inl rfl,.inl rfl⟩
  ·rintro⟨h1,h2⟩;have h3:=zeA hx.1 h1;simp only[hn,zr]at h3;subst h3;simp at h2;subst h2;rfl
 ·rw[zir neg hn]
  constructor
  ·intro h;simp only[zaI.mk.injEq,ZL,ZK]at h
   refine⟨by rw[h];exact zbQ _,.inr ?_⟩
   rcases ZaH num.length with h0|h0
   ·rw[ZA h0,zcj]at hn;exact absurd rfl hn
   ·exact h0
  ·rintro⟨h1,_⟩;rw[zeA hx.1 h1]
theorem zk4{x:zaI}(hx:x.Lim):zL x=(decide (x.neg=(za0 x).neg) && decide (x.num.length=(za0 x).num.length) && decide (x.den.length=(za0 x).den.length) &&
  decide (zo x.num=zo (za0 x).num) && decide (zo x.den=zo (za0 x).den)):=by
 rw[ZY];simp only[zL,Zy,Zw];have hc:(za0 x).Lim:=znC _ _ _;generalize za0 x=c at *;obtain⟨neg,num,den⟩:=x;obtain⟨neg',num',den'⟩:=c;simp only
 constructor
 ·intro h;cases h;exact⟨⟨⟨⟨rfl,rfl⟩,rfl⟩,rfl⟩,rfl⟩
 ·rintro⟨⟨⟨⟨h1,h2⟩,h3⟩,h4⟩,h5⟩;have e1:num=num':=zmj hx.1 hc.1 h2 h4;have e2:den=den':=zmj hx.2 hc.2 h3 h5;rw[h1,e1,e2]
theorem zpd{l:List Nat}(h:Lim l)(k:Nat):dig l k=zo l/4294967296^k%4294967296:=by
 induction l generalizing k with
 | nil=>simp[dig,zcj]
 | cons d l ih=>
  obtain⟨h1,h2⟩:=h.cons;rw[zbk]
  cases k with
  | zero=>simp[dig];omega
  | succ k=>
   rw[zfY,ih h2,ZaQ,Zz (4294967296^k),<- Zbb]
   congr 2
   omega
def zb0(Q k:Nat):Nat:=Q/4294967296^k%4294967296
theorem zix(Q k:Nat):zb0 Q k<4294967296:=Z1 _ Ya
theorem zjF(k:Nat):zb0 0 k=0:=by simp[zb0]
theorem zhO(k:Nat):4294967296^k=2^(32*k):=by rw[Nat.pow_mul]
theorem zdY(Q k t:Nat):(zb0 Q k).testBit t=(decide (t<32) && Q.testBit (32*k+t)):=by
 unfold zb0;rw[zhO,show(4294967296:Nat)=2^32 by rfl,Nat.testBit_mod_two_pow,Nat.testBit_div_two_pow,Zbw t]
theorem znc(Q i j:Nat):zb0 (Q ||| 2^i) j=if j=i/32 then zb0 Q j ||| 2^(i%32)else zb0 Q j:=by
 apply Nat.eq_of_testBit_eq
 intro t;rw[zdY,Nat.testBit_or,Nat.testBit_two_pow]
 by_cases hj:j=i/32
 ·rw[Zq hj,Nat.testBit_or,Nat.testBit_two_pow,zdY]
  by_cases ht:t<32
  ·have:(i=32*j+t) ↔ (i%32=t):=Ya;simp[ht,this]
  ·have:i%32≠t:=Ya;simp[ht,this]
 ·rw[Zh hj,zdY]
  by_cases ht:t<32
  ·have:i≠32*j+t:=Ya;simp[this]
  ·simp[ht]
theorem zjT(Q n:Nat)(h:Q<4294967296^n):zx (zb0 Q) n=Q:=by
 have key:∀n,zx (zb0 Q) n=Q%4294967296^n:=by
  intro n
  induction n with
  | zero=>simp[zx,Nat.mod_one]
  | succ n ih=>
   simp only[zx];rw[ih,zb0,ZaQ,Nat.mod_mul,Zz (Q/4294967296^n%4294967296)]
 rw[key,Zaz h]
theorem ziF(A i:Nat):A/2^i=2*(A/2^(i+1))+A/2^i%2:=by
 rw[ZaQ,<- Zbb];omega
theorem zm0{N B b:Nat}(hB:0<B)(hb:b<2)(h:B<=2*(N%B)+b):(2*N+b)%B=2*(N%B)+b-B/\(2*N+b)/B=2*(N/B)+1:=by
 have hm:=Z1 N hB;have e:=ZaJ N B;generalize N%B=r at *;generalize N/B=q at *;subst e;have e2:2*(B*q+r)+b=B*(2*q+1)+(2*r+b-B):=by
  rw[Za6,Za6,Nat.mul_left_comm];omega
 rw[e2]
 constructor
 ·rw[Nat.mul_add_mod,Zaz Ya]
 ·rw[Nat.mul_add_div hB,ZaA Ya]
theorem znv{N B b:Nat}(h:2*(N%B)+b<B):(2*N+b)%B=2*(N%B)+b/\(2*N+b)/B=2*(N/B):=by
 have hB:0<B:=Ya;have hm:=Z1 N hB;have e:=ZaJ N B;generalize N%B=r at *;generalize N/B=q at *;subst e;have e2:2*(B*q+r)+b=B*(2*q)+(2*r+b):=by
  rw[Za6,Nat.mul_left_comm];omega
 rw[e2]
 constructor
 ·rw[Nat.mul_add_mod,Zaz h]
 ·rw[Nat.mul_add_div hB,ZaA h];omega
def zds(A B i:Nat):Nat:=A/2^i/B*2^i
def zdz(A B i:Nat):Nat:=A/2^i%B
def zgK(A i:Nat):Nat:=A/2^i%2
theorem zkL(A i:Nat):zgK A i<2:=Z1 _ Ya
theorem zqk{A B i:Nat}(hB:0<B)(h:B<=2*zdz A B (i+1)+zgK A i):zdz A B i=2*zdz A B (i+1)+zgK A i-B/\zds A B i=zds A B (i+1) ||| 2^i:=by
 obtain⟨h1,h2⟩:=zm0 hB (zkL A i) h;have e:2*(A/2^(i+1))+zgK A i=A/2^i:=(ziF A i).symm;rw[e]at h1 h2
 refine⟨h1,?_⟩
 unfold zds;rw[h2,Zz (A/2^(i+1)/B),<- Nat.two_pow_add_eq_or_of_lt (by rw[ZaQ];have:=ZaV i;omega),ZaQ,ZI,Zah,Zz 2,ZM,Zz (A/(2^i*2)/B),Zz (2^i) 2]
theorem zpY{A B i:Nat}(h:2*zdz A B (i+1)+zgK A i<B):zdz A B i=2*zdz A B (i+1)+zgK A i/\zds A B i=zds A B (i+1):=by
 obtain⟨h1,h2⟩:=znv h;have e:2*(A/2^(i+1))+zgK A i=A/2^i:=(ziF A i).symm;rw[e]at h1 h2
 refine⟨h1,?_⟩
 unfold zds;rw[h2,ZaQ,Zz 2,ZM,Zz 2]
theorem zpw{A B n:Nat}(h:A<2^n):zdz A B n=0/\zds A B n=0:=by
 unfold zdz zds;rw[ZaA h];simp
theorem zpC(A B:Nat):zdz A B 0=A%B/\zds A B 0=A/B:=by simp[zdz,zds]
theorem zpe(A B i:Nat):zds A B i<=A:=
 Zl (Zp _ (Za9 _ _)) (Nat.div_mul_le_self _ _)
theorem zng{l:List Nat}(h:Lim l)(i:Nat):zgK (zo l) i=dig l (i/32)/2^(i%32)%2:=by
 rw[zpd h];have h1:∀x n:Nat,x/2^n%2=(x.testBit n).toNat:=fun x n=>by
  rw[Nat.testBit_eq_decide_div_mod_eq];have:=Z1 (x/2^n) (show 0<2 from Ya)
  by_cases h:x/2^n%2=1<;>simp[h];omega
 unfold zgK;rw[h1,h1];have:=zdY (zo l) (i/32) (i%32);unfold zb0 at this;rw[this,Zk (Z1 _ Ya),Z0,ZaJ]
