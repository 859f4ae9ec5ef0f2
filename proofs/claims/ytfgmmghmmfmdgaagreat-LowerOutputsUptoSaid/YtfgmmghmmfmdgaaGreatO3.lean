/-
  Contracts: Limb, LimbB, LimbC, LimbD, LimbE, RatL, LimbF.
-/
import Derived.Lib.Hide
import Derived.Test.YtfgmmghmmfmdgaaGreatO0
set_option linter.all false
set_option maxRecDepth 100000
set_option maxHeartbeats 3200000
namespace Go.Proofs.YtfgmmghmmfmdgaaGreat
open Go.Lib (hid)
theorem EM{P:Prop}(h:P:=by rw[ZK,Zao]at this;omega):P:=h
theorem Ij{P:Prop}(h:P:=by simp only[zje,zil (Za l.length),Nat.zero_div,Nat.mul_zero,ZU]at h;exact h.symm):P:=h
def zA(f:Nat->Nat):Nat->Nat
 | 0=>0
 | n+1=>zA f n+f n*4294967296^n
def dig(l:List Nat)(i:Nat):Nat:=l.getD i 0
def zo(l:List Nat):Nat:=zA (dig l) l.length
def Lim(l:List Nat):Prop:=∀d∈l,d<4294967296
theorem zbO(n:Nat):0<4294967296^n:=Nat.pow_pos Ya
theorem zaQ(n:Nat):4294967296^(n+1)=4294967296^n*4294967296:=Zas _ _
theorem zaj{f g:Nat->Nat}{n:Nat}(h:∀i,i<n->f i=g i):zA f n=zA g n:=by
 induction n with
 | zero=>rfl
 | succ n ih=>simp only[zA];rw[ih (fun i hi=>h i Ya),h n Ya]
theorem zeT{f:Nat->Nat}{n:Nat}(h:∀i,i<n->f i=0):zA f n=0:=by
 induction n with
 | zero=>rfl
 | succ n ih=>simp only[zA];rw[ih (fun i hi=>h i Ya),h n Ya];simp
theorem ze1{f:Nat->Nat}{n m:Nat}(hnm:n<=m)(h:∀i,n<=i->i<m->f i=0):zA f m=zA f n:=by
 induction m with
 | zero => have : n = 0 := by omega
           rw[this]
 | succ m ih=>
  by_cases he:n=m+1
  ·rw[he]
  ·simp only[zA];rw[ih Ya (fun i h1 h2=>h i h1 Ya),h m Ya Ya];simp
theorem zbA{f:Nat->Nat}{n:Nat}(h:∀i,i<n->f i<4294967296):zA f n<4294967296^n:=by
 induction n with
 | zero=>simp[zA]
 | succ n ih=>
  simp only[zA,zaQ];have h1:=ih (fun i hi=>h i Ya);have h2:f n*4294967296^n<=4294967295*4294967296^n:=Zl _ (by have:=h n Ya;omega);omega
theorem zbh(f:Nat->Nat)(k n:Nat):zA f (k+n)=zA f k+zA (fun i=>f (k+i)) n*4294967296^k:=by
 induction n with
 | zero=>simp[zA]
 | succ n ih=>
  rw[<- Zat];simp only[zA];rw[ih,ZK,Z9,ZL,Zat,ZD (4294967296^n)]
theorem zJ{l:List Nat}(h:Lim l)(i:Nat):dig l i<4294967296:=by
 unfold dig;rw[Zd]
 cases hi:l[i]? with
 | none=>simp
 | some d=>exact h d (Zq hi)
theorem zcS{l:List Nat}{i:Nat}(h:l.length<=i):dig l i=0:=by
 unfold dig;rw[Zd,ZaW h];rfl
theorem zsN{l:List Nat}{i d:Nat}(h:l[i]? =some d):dig l i=d:=by
 unfold dig;rw[Zd,h];rfl
theorem zef{l:List Nat}{i:Nat}(h:i<l.length):l[i]? =some (dig l i):=by
 unfold dig;rw[Zd,Zh h];rfl
theorem zct{l:List Nat}(h:Lim l):zo l<4294967296^l.length:=zbA (fun i _=>zJ h i)
theorem zcy:zo []=0:=rfl
theorem znD{f:Nat->Nat}{n i:Nat}(h:i<n):dig ((List.range n).map f) i=f i:=by
 unfold dig;simp[h]
theorem zbL(f:Nat->Nat)(n:Nat):zo ((List.range n).map f)=zA f n:=by
 unfold zo;rw[Zv,Zav];exact zaj (fun i hi=>znD hi)
theorem zge(d:Nat)(l:List Nat)(i:Nat):dig (d::l) (i+1)=dig l i:=by unfold dig;simp
theorem zbs(d:Nat)(l:List Nat):zo (d::l)=d+4294967296*zo l:=by
 unfold zo;rw[ZH,Zbt,zbh];simp only[zA,Nat.pow_zero,Zba,ZR,Nat.pow_one];rw[show dig (d::l) 0=d from rfl,ZD]
 congr 2
 exact zaj (fun i _=>by rw[Zbt];exact zge d l i)
theorem Lim.cons{d:Nat}{l:List Nat}(h:Lim (d::l)):d<4294967296/\Lim l:=⟨h d Yc,fun x hx=>h x (by simp[hx])⟩
def za(n:Nat):List Nat:=if n=0 then[]else n%4294967296::za (n/4294967296)
termination_by n
decreasing_by exact Nat.div_lt_self Ya Ya
theorem zy:za 0=[]:=by unfold za;simp
theorem zdc{n:Nat}(h:n≠0):za n=n%4294967296::za (n/4294967296):=by rw[za,Zg h]
theorem zlS{d v:Nat}(hd:d<4294967296)(h:d≠0∨v≠0):za (d+4294967296*v)=d::za v:=by
 rw[zdc Ya]
 congr 1
 ·omega
 ·congr 1;omega
theorem zg(n:Nat):zo (za n)=n:=by
 induction n using Nat.strongRecOn with
 | _ n ih=>
  by_cases h:n=0
  ·subst h;rw[zy];rfl
  ·rw[zdc h,zbs,ih _ (Nat.div_lt_self Ya Ya)];omega
theorem zv(n:Nat):Lim (za n):=by
 induction n using Nat.strongRecOn with
 | _ n ih=>
  by_cases h:n=0
  ·subst h;rw[zy];intro d hd;simp at hd
  ·rw[zdc h];intro d hd
   rcases Za7.1 hd with rfl|hd
   ·omega
   ·exact ih _ (Nat.div_lt_self Ya Ya) d hd
def zf4(l:List Nat):Prop:=l=[]∨dig l (l.length-1)≠0
instance (l:List Nat):Decidable (zf4 l):=by unfold zf4;infer_instance
theorem zeP{l:List Nat}(hl:Lim l)(h:zf4 l):za (zo l)=l:=by
 induction l with
 | nil=>exact zy
 | cons d r ih=>
  have hd:=hl.cons;have hr:zf4 r:=by
   by_cases hn:r=[]
   ·exact .inl hn
   ·right
    rcases h with h|h
    ·cases h
    ·have hp:0<r.length:=ZJ.2 hn;have e:(d::r).length-1=(r.length-1)+1:=Yi;rw[e,zge]at h;exact h
  rw[zbs,zlS hd.1,ih hd.2 hr]
  by_cases hn:r=[]
  ·subst hn
   rcases h with h|h
   ·cases h
   ·left;exact h
  ·right
   intro h0
   apply hn
   rw[<- ih hd.2 hr,h0,zy]
theorem zb2(n:Nat):zf4 (za n):=by
 induction n using Nat.strongRecOn with
 | _ n ih=>
  by_cases h:n=0
  ·subst h;exact .inl zy
  ·right
   rw[zdc h]
   rcases ih _ (Nat.div_lt_self (n:=n) (k:=4294967296) Ya Ya)with h0|h0
   ·rw[h0];show n%4294967296≠0
    have h1:n/4294967296=0:=by rw[<- zg (n/4294967296),h0];rfl
    omega
   ·by_cases hn:za (n/4294967296)=[]
    ·rw[hn]at h0;simp[dig]at h0
    ·have hp:0<(za (n/4294967296)).length:=ZJ.2 hn;have e:(n%4294967296::za (n/4294967296)).length-1=((za (n/4294967296)).length-1)+1:=Yi;rw[e,zge];exact h0
theorem zjK{n:Nat}:za n=[] ↔ n=0:=⟨fun h=>by rw[<- zg n,h];rfl,fun h=>by rw[h,zy]⟩
theorem zfq{l:List Nat}{n:Nat}(hl:Lim l)(hn:n<=l.length)(h0:∀i,n<=i->i<l.length->dig l i=0)(h1:n=0∨dig l (n-1)≠0):l.take n=za (zo l):=by
 have ht:(l.take n).length=n:=Yi;have hd:∀i,i<n->dig (l.take n) i=dig l i:=by
  intro i hi;unfold dig;simp only[Zd];rw[ZaZ hi]
 have hv:zo (l.take n)=zo l:=by
  unfold zo;rw[ht,ze1 hn h0];exact zaj hd
 rw[<- hv,zeP (fun d hd=>hl d (ZT hd))]
 rcases h1 with h1|h1
 ·left;apply Zy;omega
 ·by_cases hz:n=0
  ·left;apply Zy;omega
  ·right;rw[ht,hd _ Ya];exact h1
theorem zaq{n k:Nat}(h:n<4294967296^k):(za n).length<=k:=by
 rcases ZaC k (za n).length with hlt|hge
 ·exfalso
  rcases zb2 n with h0|h0
  ·rw[h0]at hlt;simp at hlt
  ·have e:=zg n;unfold zo at e;obtain⟨m,hm⟩:∃m,(za n).length=m+1:=⟨(za n).length-1,Ya⟩
   rw[hm]at e h0;simp only[zA,ZaA]at e h0;have h2:4294967296^m<=dig (za n) m*4294967296^m:=Zad _ Ya;have h3:4294967296^k<=4294967296^m:=Zt Ya Ya;omega
 ·exact hge
theorem zaT(n:Nat):n<4294967296^(za n).length:=by
 have:=zct (zv n)
 rwa [zg]at this
theorem zaC{a b:Nat}(h:a<=b):(za a).length<=(za b).length:=zaq (ZaB h (zaT b))
theorem zG{l:List Nat}(h:Lim l):(za (zo l)).length<=l.length:=zaq (zct h)
theorem ztc{x c y c' z P:Nat}(h:x+4294967296*c'=c+y+z):x*P+c'*(P*4294967296)=c*P+y*P+z*P:=by
 have e:x*P+c'*(P*4294967296)=(x+4294967296*c')*P:=by
  rw[ZK,ZD 4294967296 c',ZL c',ZD P]
 rw[e,h,ZK,ZK]
/-! ### Comparing -/
def zdR(x y:Nat):Int:=if x<y then -1 else if y<x then 1 else 0
theorem zhY{f g:Nat->Nat}{n i:Nat}(hf:∀j,j<n->f j<4294967296)(hi:i<n)(hs:∀j,i<j->j<n->f j=g j)(h:f i<g i):zA f n<zA g n:=by
 obtain⟨m,rfl⟩:∃m,n=i+1+m:=⟨n-(i+1),Ya⟩
 rw[zbh f (i+1) m,zbh g (i+1) m,zaj (n:=m) (f:=fun j=>f (i+1+j)) (g:=fun j=>g (i+1+j)) (fun j hj=>hs _ Ya Ya)];have h1:zA f i<4294967296^i:=zbA (fun j hj=>hf j Ya);have h2:(f i+1)*4294967296^i<=g i*4294967296^i:=Zl _ h;rw[Zac]at h2;simp only[zA];omega
theorem zkz{a b:List Nat}(ha:Lim a)(hb:zf4 b)(h:a.length<b.length):zo a<zo b:=by
 rcases hb with rfl|hb
 ·simp at h
 ·have h1:=zct ha;obtain⟨m,hm⟩:∃m,b.length=m+1:=⟨b.length-1,Ya⟩
  have h2:4294967296^a.length<=4294967296^m:=Zt Ya Ya;unfold zo at *;rw[hm]at hb⊢;simp only[zA,ZaA]at *;have h3:4294967296^m<=dig b m*4294967296^m:=Zad _ Ya;omega
/-! ### Adding -/
def zV(f g:Nat->Nat):Nat->Nat
 | 0=>0
 | n+1=>(zV f g n+f n+g n)/4294967296
def zf3(f g:Nat->Nat)(n:Nat):Nat:=(zV f g n+f n+g n)%4294967296
theorem ztQ(f g:Nat->Nat)(n:Nat):zA (zf3 f g) n+zV f g n*4294967296^n=zA f n+zA g n:=by
 induction n with
 | zero=>simp[zA,zV]
 | succ n ih=>
  simp only[zA,zaQ];have:=ztc (P:=4294967296^n) (show zf3 f g n+4294967296*zV f g (n+1)=zV f g n+f n+g n from by simp only[zV,zf3];omega);omega
theorem ziz(f g:Nat->Nat)(n:Nat):zf3 f g n<4294967296:=Z7 _ Ya
theorem ze2{f g:Nat->Nat}{n:Nat}(hf:∀i,f i<4294967296)(hg:∀i,g i<4294967296):zV f g n<=1:=by
 induction n with
 | zero=>simp[zV]
 | succ n ih=>have:=hf n;have:=hg n;simp only[zV];omega
/-! ### Subtracting -/
def zd2(f g:Nat->Nat):Nat->Nat
 | 0=>0
 | n+1=>if f n<zd2 f g n+g n then 1 else 0
def zgz(f g:Nat->Nat)(n:Nat):Nat:=f n+4294967296*zd2 f g (n+1)-(zd2 f g n+g n)
theorem zfr(f g:Nat->Nat)(n:Nat):zd2 f g n<=1:=by
 cases n with
 | zero=>simp[zd2]
 | succ n=>simp only[zd2];split<;>omega
theorem zrL{f g:Nat->Nat}{n:Nat}(hg:g n<4294967296):zgz f g n+zd2 f g n+g n=f n+4294967296*zd2 f g (n+1):=by
 have:=zfr f g n;simp only[zgz,zd2]
 split<;>omega
theorem ziK{f g:Nat->Nat}{n:Nat}(hf:f n<4294967296)(hg:g n<4294967296):zgz f g n<4294967296:=by
 have:=zfr f g n;simp only[zgz,zd2]
 split<;>omega
theorem zue{f g:Nat->Nat}(hg:∀i,g i<4294967296)(n:Nat):zA (zgz f g) n+zA g n=zA f n+zd2 f g n*4294967296^n:=by
 induction n with
 | zero=>simp[zA,zd2]
 | succ n ih=>
  simp only[zA,zaQ];have e:=zrL (f:=f) (hg n);have h1:(zgz f g n+zd2 f g n+g n)*4294967296^n=(f n+4294967296*zd2 f g (n+1))*4294967296^n:=Ul;rw[ZK,ZK,ZK,ZL 4294967296,ZD 4294967296]at h1;rw[ZL (zd2 f g (n+1))]at h1;omega
theorem zlm{f g:Nat->Nat}{n:Nat}(hf:∀i,f i<4294967296)(hg:∀i,g i<4294967296)(h:zA g n<=zA f n):zA (zgz f g) n=zA f n-zA g n/\zd2 f g n=0:=by
 have h1:=zue hg n (f:=f);have h2:zA (zgz f g) n<4294967296^n:=zbA (fun i _=>ziK (hf i) (hg i));have h3:=zfr f g n;have h4:zd2 f g n=0:=by
  rcases ZaC (zd2 f g n) 1 with h5|h5
  ·omega
  ·have:zd2 f g n=1:=Ya;rw[this]at h1;omega
 rw[h4]at h1;exact⟨Ya,h4⟩
/-! ### Multiplying by a limb and adding -/
def zf9(x:Nat)(y o:Nat->Nat):Nat->Nat
 | 0=>0
 | n+1=>(zf9 x y o n+x*y n+o n)/4294967296
def zi2(x:Nat)(y o:Nat->Nat)(n:Nat):Nat:=(zf9 x y o n+x*y n+o n)%4294967296
theorem zmJ(x:Nat)(y o:Nat->Nat)(n:Nat):zi2 x y o n<4294967296:=Z7 _ Ya
theorem zne{x y:Nat}(hx:x<4294967296)(hy:y<4294967296):x*y<=18446744065119617025:=
 Zi (ZY (show x<=4294967295 from Ya) (show y<=4294967295 from Ya)) Yd
theorem ziQ{x:Nat}{y o:Nat->Nat}(hx:x<4294967296)(hy:∀i,y i<4294967296)(ho:∀i,o i<4294967296)(n:Nat):zf9 x y o n<4294967296:=by
 induction n with
 | zero=>simp[zf9]
 | succ n ih=>
  have h1:=zne hx (hy n);have h2:=ho n;simp only[zf9];omega
theorem zth(x:Nat)(y o:Nat->Nat)(n:Nat):zA (zi2 x y o) n+zf9 x y o n*4294967296^n=x*zA y n+zA o n:=by
 induction n with
 | zero=>simp[zA,zf9]
 | succ n ih=>
  simp only[zA,zaQ];have:=ztc (P:=4294967296^n) (show zi2 x y o n+4294967296*zf9 x y o (n+1)=zf9 x y o n+x*y n+o n from by simp only[zf9,zi2];omega);rw[Za9,<- ZL x];omega
def zbQ(f:Nat->Nat)(x:Nat)(y:Nat->Nat)(i m:Nat):Nat->Nat:=fun j=>
 if j<i then f j else if j<i+m then zi2 x y (fun k=>f (i+k)) (j-i)else if j=i+m then zf9 x y (fun k=>f (i+k)) m else f j
theorem zhW(f:Nat->Nat)(x:Nat)(y:Nat->Nat)(i m:Nat):zA (zbQ f x y i m) (i+m+1)=zA f (i+m)+x*zA y m*4294967296^i:=by
 rw[Zat,zbh,zaj (n:=i) (f:=zbQ f x y i m) (g:=f) (fun j hj=>by unfold zbQ;rw[Zm hj])];have e:zA (fun k=>zbQ f x y i m (i+k)) (m+1)=x*zA y m+zA (fun k=>f (i+k)) m:=by
  simp only[zA];rw[zaj (n:=m) (f:=fun k=>zbQ f x y i m (i+k)) (g:=zi2 x y (fun k=>f (i+k))) (fun k hk=>by unfold zbQ;rw[Zg Ya,Zm Ya,ZaO])];have:zbQ f x y i m (i+m)=zf9 x y (fun k=>f (i+k)) m:=by unfold zbQ;rw[Zg Ya,Zg Ya,Zm rfl]
  rw[this];exact zth x y _ m
 rw[e,ZK,zbh f i m];omega
/-! ### zbZ the last limb to the first -/
theorem zqF{V q:Nat->Nat}{n:Nat}(h:∀i,i<n->V i=q i+4294967296*V (i+1)):V 0=zA q n+4294967296^n*V n:=by
 induction n with
 | zero=>simp[zA]
 | succ n ih=>
  rw[ih (fun i hi=>h i Ya),h n Ya];simp only[zA,zaQ];rw[Za9,ZD (4294967296^n) (q n),ZL,Nat.mul_left_comm (4294967296^n)];rw[Nat.mul_left_comm 4294967296];omega
def zfU(l:List Nat)(i:Nat):Nat:=zo (l.drop i)
theorem zje(l:List Nat):zfU l 0=zo l:=by simp[zfU]
theorem zil{l:List Nat}{i:Nat}(h:l.length<=i):zfU l i=0:=by simp[zfU,List.drop_of_length_le h,zcy]
theorem zg1{l:List Nat}{i:Nat}(h:i<l.length):zfU l i=dig l i+4294967296*zfU l (i+1):=by
 unfold zfU;rw[ZaR h,zbs]
 congr 1
 exact(zsN (Zh h)).symm
theorem zqg{l:List Nat}(hl:Lim l)(i:Nat):zfU l i%4294967296=dig l i:=by
 rcases ZaC i l.length with h|h
 ·rw[zg1 h];have:=zJ hl i;omega
 ·rw[zil h,zcS h]
/-! ### Dividing by a limb -/
theorem zh7{l:List Nat}{d i:Nat}(hd:0<d)(h:i<l.length):
  zfU l i/d=(zfU l (i+1)%d*4294967296+dig l i)/d+4294967296*(zfU l (i+1)/d)/\zfU l i%d=(zfU l (i+1)%d*4294967296+dig l i)%d:=by
 rw[zg1 h];generalize zfU l (i+1)=H;generalize dig l i=a;have e:a+4294967296*H=(H%d*4294967296+a)+d*(4294967296*(H/d)):=by
  have h1:=ZaU H d;have h2:d*(4294967296*(H/d))=4294967296*(d*(H/d)):=by rw[Nat.mul_left_comm]
  rw[h2];generalize d*(H/d)=Z at *;omega
 rw[e];exact⟨by rw[Nat.add_mul_div_left _ _ hd],by rw[Nat.add_mul_mod_self_left]⟩
theorem zkS{l:List Nat}{d i:Nat}(hl:Lim l)(hd:0<d):(zfU l (i+1)%d*4294967296+dig l i)/d<4294967296:=by
 have h1:=Z7 (zfU l (i+1)) hd;have h2:=zJ hl i;rw[ZaD hd];have:(zfU l (i+1)%d+1)*4294967296<=d*4294967296:=Zl _ h1;rw[Zac]at this;rw[ZD 4294967296];omega
/-! ### Shifting to the right by less than a limb -/
theorem zpH{l:List Nat}{k i:Nat}(hl:Lim l)(hk:k<32)(h:i<l.length):
  zfU l i/2^k=(dig l i+dig l (i+1)*4294967296)/2^k%4294967296+4294967296*(zfU l (i+1)/2^k):=by
 rw[zg1 h];have hp:0<2^k:=Za0 k;have hB:(4294967296:Nat)=2^k*2^(32-k):=by rw[<- Z9,show k+(32-k)=32 from Ya]
 have hd:=zqg hl (i+1);generalize zfU l (i+1)=H at *;rw[<- hd];have ha:=zJ hl i;generalize dig l i=a at *;have e1:(a+4294967296*H)/2^k=a/2^k+2^(32-k)*H:=by
  rw[show 4294967296*H=2^k*(2^(32-k)*H) by rw[<- ZL,<- hB],Nat.add_mul_div_left _ _ hp]
 have e2:(a+H%4294967296*4294967296)/2^k=a/2^k+2^(32-k)*(H%4294967296):=by
  rw[show H%4294967296*4294967296=2^k*(2^(32-k)*(H%4294967296)) by rw[<- ZL,<- hB,ZD],Nat.add_mul_div_left _ _ hp]
 rw[e1,e2];have hmod:H%4294967296%2^k=H%2^k:=Nat.mod_mod_of_dvd _ ⟨2^(32-k),hB⟩;have spl:∀x:Nat,2^(32-k)*x=4294967296*(x/2^k)+2^(32-k)*(x%2^k):=by
  intro x
  conv=>lhs;rw[<- ZaU x (2^k),Za9,<- ZL,ZD (2^(32-k)),<- hB]
 have h1:=spl H;have h2:=spl (H%4294967296);rw[hmod]at h2;have h3:a/2^k<2^(32-k):=Nat.div_lt_of_lt_mul (by rw[<- hB];exact ha);have h4:2^(32-k)*(H%2^k+1)<=2^(32-k)*2^k:=ZQ _ (Z7 _ hp);rw[ZD _ (2^k),<- hB,Za9,Zba]at h4;rw[h1,h2];generalize a/2^k=u at *;generalize 2^(32-k)*(H%2^k)=v at *;generalize H/2^k=y at *;generalize H%4294967296/2^k=z at *;omega
theorem zrv{l:List Nat}{k:Nat}(hl:Lim l)(hk:k<32):zA (fun i=>(dig l i+dig l (i+1)*4294967296)/2^k%4294967296) l.length=zo l/2^k:=by
 have h:=zqF (V:=fun i=>zfU l i/2^k) (n:=l.length) (fun i hi=>zpH hl hk hi);exact Ij
theorem znb{l:List Nat}{d:Nat}(hd:0<d):zA (fun i=>(zfU l (i+1)%d*4294967296+dig l i)/d) l.length=zo l/d:=by
 have h:=zqF (V:=fun i=>zfU l i/d) (n:=l.length) (fun i hi=>(zh7 hd hi).1);exact Ij
/-! ### Shifting to the left by less than a limb -/
def zjS(f:Nat->Nat)(k:Nat):Nat->Nat
 | 0=>0
 | n+1=>f n*2^k/4294967296
def znz(f:Nat->Nat)(k n:Nat):Nat:=f n*2^k%4294967296+zjS f k n
theorem ziG{f:Nat->Nat}{k:Nat}(hf:∀i,f i<4294967296)(n:Nat):zjS f k n<2^k:=by
 cases n with
 | zero=>exact Za0 k
 | succ n=>simp only[zjS];rw[ZaD Ya,ZD];exact Nat.mul_lt_mul_of_pos_left (hf n) (Za0 k)
theorem zqH{a k:Nat}(hk:k<32):a*2^k%4294967296=a%2^(32-k)*2^k:=by
 have hB:(4294967296:Nat)=2^(32-k)*2^k:=KY;rw[hB,Nat.mul_mod_mul_right]
theorem zqS{f:Nat->Nat}{k:Nat}(hf:∀i,f i<4294967296)(hk:k<32)(n:Nat):znz f k n<4294967296:=by
 have hB:(4294967296:Nat)=2^(32-k)*2^k:=KY;have h1:=ziG hf n (k:=k);have h2:(f n%2^(32-k)+1)*2^k<=2^(32-k)*2^k:=Zl _ (Z7 _ (Za0 _));rw[ZK,Zao,<- hB]at h2;unfold znz;rw[zqH hk];omega
theorem zul(f:Nat->Nat)(k n:Nat):zA (znz f k) n+zjS f k n*4294967296^n=zA f n*2^k:=by
 induction n with
 | zero=>simp[zA,zjS]
 | succ n ih=>
  simp only[zA,zaQ];have h1:=ztc (P:=4294967296^n) (show znz f k n+4294967296*zjS f k (n+1)=zjS f k n+f n*2^k+0 from by simp only[zjS,znz];omega);rw[ZK,<- ih,Zbi (f n)];omega
/-! ### The estimate -/
theorem zly{U V P t w q:Nat}(hU:U<(t+1)*P)(hV:w*P<=V)(hq:t<q*w):U<q*V:=by
 have h1:(t+1)*P<=q*w*P:=Zl _ hq;have h2:q*w*P<=q*V:=by rw[ZL];exact ZQ _ hV
 omega
theorem zkB{U V P t w q:Nat}(hU:t*P<=U)(hV:V<(w+1)*P)(hq:q*w<=t)(hqP:q*P<=V):q*V<=U+V:=by
 have h1:q*V<=q*((w+1)*P):=ZQ _ (Zan hV);have h2:q*((w+1)*P)=q*w*P+q*P:=by rw[ZK,Zao,Za9,ZL]
 have h3:q*w*P<=t*P:=Zl _ hq;omega
structure zdD (u v:Nat->Nat) (n:Nat):Prop where
 n2:2<=n
 ul:∀i,u i<4294967296
 vl:∀i,v i<4294967296
 norm:2147483648<=v (n-1)
 lt:zA u (n+1)<zA v n*4294967296
section
variable {u v:Nat->Nat} {n:Nat}
def ziv(u:Nat->Nat)(n:Nat):Nat:=u n*4294967296+u (n-1)
theorem zdD.parts(h:zdD u v n):∃ul vl P:Nat,ul<P/\vl<P/\0<P/\4294967296^(n-1)=4294967296*P/\zA u (n+1)=ul+(ziv u n*4294967296+u (n-2))*P/\zA v n=vl+(v (n-1)*4294967296+v (n-2))*P:=by
 obtain⟨m,rfl⟩:∃m,n=m+2:=⟨n-2,by have:=h.n2;omega⟩
 refine⟨zA u m,zA v m,4294967296^m,zbA (fun i _=>h.ul i),zbA (fun i _=>h.vl i),zbO m,?_,?_,?_⟩
 ·show 4294967296^(m+1)=_
  rw[zaQ,ZD]
 ·unfold ziv;show zA u (m+1+1+1)=zA u m+((u (m+2)*4294967296+u (m+1))*4294967296+u m)*4294967296^m
  simp only[zA,zaQ];generalize 4294967296^m=P;have e:(u (m+2)*4294967296+u (m+1))*4294967296*P=u (m+2)*(P*4294967296*4294967296)+u (m+1)*(P*4294967296):=by
   rw[ZL,ZD 4294967296 P,ZK,ZL (u (m+2)) 4294967296,ZD 4294967296 (P*4294967296)]
  rw[ZK,e];omega
 ·show zA v (m+1+1)=zA v m+(v (m+1)*4294967296+v m)*4294967296^m
  simp only[zA,zaQ];generalize 4294967296^m=P;rw[ZK,ZL _ 4294967296 P,ZD 4294967296 P];omega
theorem zdD.pos(h:zdD u v n):0<zA v n:=by
 obtain⟨ul,vl,P,h1,h2,h3,h4,h5,h6⟩:=h.parts;have h7:1*P<=(v (n-1)*4294967296+v (n-2))*P:=Zl _ (by have:=h.norm;omega);omega
theorem zdD.quo_lt(h:zdD u v n):zA u (n+1)/zA v n<4294967296:=by
 rw[ZaD h.pos,ZD];exact h.lt
theorem zdD.start(h:zdD u v n):zA u (n+1)/zA v n<=ziv u n/v (n-1)/\ziv u n/v (n-1)<=4294967297:=by
 obtain⟨ul,vl,P,h1,h2,h3,h4,h5,h6⟩:=h.parts;have hv:=h.norm
 constructor
 ·rw[Nat.le_div_iff_mul_le Ya];have hq:=Nat.div_mul_le_self (zA u (n+1)) (zA v n);generalize zA u (n+1)/zA v n=Q at *;have g1:v (n-1)*(4294967296*P)<=zA v n:=by
   rw[h6,ZK,ZL];omega
  have g2:Q*v (n-1)*(4294967296*P)<=Q*zA v n:=by rw[ZL];exact ZQ _ g1
  have hu2:=h.ul (n-2);have g3:zA u (n+1)<(ziv u n+1)*(4294967296*P):=by
   rw[h5,ZK,ZK,Zao,ZL];have:(u (n-2)+1)*P<=4294967296*P:=Zl _ hu2;exact EM
  have g4:Q*v (n-1)*(4294967296*P)<(ziv u n+1)*(4294967296*P):=Ya;have:=Nat.lt_of_mul_lt_mul_right g4;omega
 ·have hlt:=h.lt;have hvl:=h.vl (n-2);have hun1:=h.ul (n-1);have g1:u n<=v (n-1):=by
   have e1:u n*(4294967296*(4294967296*P))<=zA u (n+1):=by
    rw[h5];unfold ziv;rw[ZK,ZL _ 4294967296 P,ZK (u n*4294967296),ZL (u n)];omega
   have e2:zA v n<(v (n-1)+1)*(4294967296*P):=by
    rw[h6,ZK,ZL,ZK,Zao];have:(v (n-2)+1)*P<=4294967296*P:=Zl _ hvl;exact EM
   have e3:zA v n*4294967296<=(v (n-1)+1)*(4294967296*P)*4294967296:=Zl _ (Zan e2);rw[ZL,ZD (4294967296*P) 4294967296]at e3;have e4:u n*(4294967296*(4294967296*P))<(v (n-1)+1)*(4294967296*(4294967296*P)):=Ya;have:=Nat.lt_of_mul_lt_mul_right e4;omega
  have g2:ziv u n<4294967298*v (n-1):=by
   unfold ziv;omega
  have:=(ZaD (show 0<v (n-1)from Ya)).2 g2;omega
theorem zdD.too_great(h:zdD u v n){q r:Nat}(hr:q*v (n-1)+r=ziv u n)(ht:r*4294967296+u (n-2)<q*v (n-2)):zA u (n+1)/zA v n<q:=by
 obtain⟨ul,vl,P,h1,h2,h3,h4,h5,h6⟩:=h.parts;rw[ZaD h.pos]
 refine zly (P:=P) (t:=ziv u n*4294967296+u (n-2)) (w:=v (n-1)*4294967296+v (n-2)) ?_ Ya ?_
 ·rw[ZK,Zao];omega
 ·rw[<- hr,Za9,ZK,ZL];omega
theorem zdD.good(h:zdD u v n){q r:Nat}(hr:q*v (n-1)+r=ziv u n)(ht:q*v (n-2)<=r*4294967296+u (n-2))(hq:q<=4294967296):q<=zA u (n+1)/zA v n+1:=by
 obtain⟨ul,vl,P,h1,h2,h3,h4,h5,h6⟩:=h.parts;have hv:=h.norm;have key:q*zA v n<=zA u (n+1)+zA v n:=by
  refine zkB (P:=P) (t:=ziv u n*4294967296+u (n-2)) (w:=v (n-1)*4294967296+v (n-2)) Ya ?_ ?_ ?_
  ·rw[ZK,Zao];omega
  ·rw[<- hr,Za9,ZK,ZL];omega
  ·have g1:q*P<=4294967296*P:=Zl _ hq;have g2:4294967296*P<=(v (n-1)*4294967296+v (n-2))*P:=Zl _ Ya;omega
 have hp:=h.pos;have h7:(q-1)*zA v n<=zA u (n+1):=by
  rw[ZD,Nat.mul_sub_one,ZD];omega
 have:=(Nat.le_div_iff_mul_le hp).2 h7;omega
end
/-! ### The subtraction -/
section
variable {u v:Nat->Nat} {n q:Nat}
def zga(q:Nat)(v:Nat->Nat):Nat->Nat:=zi2 q v (fun _=>0)
def zbz(q:Nat)(v:Nat->Nat):Nat->Nat:=zf9 q v (fun _=>0)
theorem zhD(q:Nat)(v:Nat->Nat)(n:Nat):zbz q v (n+1)=(zbz q v n+q*v n)/4294967296:=rfl
theorem zpN(q:Nat)(v:Nat->Nat)(n:Nat):zga q v n=(zbz q v n+q*v n)%4294967296:=rfl
theorem ziD(q:Nat)(v:Nat->Nat)(n:Nat):zga q v n<4294967296:=Z7 _ Ya
theorem zo8(q:Nat)(v:Nat->Nat)(n:Nat):zA (zga q v) n+zbz q v n*4294967296^n=q*zA v n:=by
 have:=zth q v (fun _=>0) n;rw[zeT (f:=fun _=>0) (fun _ _=>rfl)]at this;exact this
theorem zk3(hq:q<=4294967296)(hv:∀i,v i<4294967296)(n:Nat):zbz q v n<4294967296:=by
 induction n with
 | zero=>exact(by decide:(0:Nat)<4294967296)
 | succ n ih=>
  have h1:q*v n<=4294967296*4294967295:=ZY hq (by have:=hv n;omega);rw[zhD];omega
def zf6(u v:Nat->Nat)(q:Nat):Nat->Nat:=zgz u (zga q v)
def zf2(u v:Nat->Nat)(q:Nat):Nat->Nat:=zd2 u (zga q v)
theorem ziy(hu:∀i,u i<4294967296)(i:Nat):zf6 u v q i<4294967296:=ziK (hu i) (ziD q v i)
theorem zn8(u v:Nat->Nat)(q n:Nat):zf2 u v q n<=1:=zfr _ _ _
theorem zoA(u v:Nat->Nat)(q n:Nat):zA (zf6 u v q) n+q*zA v n=zA u n+(zf2 u v q n+zbz q v n)*4294967296^n:=by
 have h1:=zue (f:=u) (ziD q v) n;have h2:=zo8 q v n;unfold zf6 zf2;rw[ZK];omega
theorem zi5(u v:Nat->Nat)(q n:Nat):zA (zf6 u v q) n+u n*4294967296^n+q*zA v n=zA u (n+1)+(zf2 u v q n+zbz q v n)*4294967296^n:=by
 have:=zoA u v q n;simp only[zA];omega
theorem zru(h:zf2 u v q n+zbz q v n<=u n):q*zA v n<=zA u (n+1)/\zA (zf6 u v q) n+(u n-(zf2 u v q n+zbz q v n))*4294967296^n=zA u (n+1)-q*zA v n:=by
 have h1:=zi5 u v q n;have h2:u n*4294967296^n=(u n-(zf2 u v q n+zbz q v n))*4294967296^n+(zf2 u v q n+zbz q v n)*4294967296^n:=by
  rw[<- ZK];congr 1;omega
 have h3:zA u (n+1)=zA u n+u n*4294967296^n:=rfl;have h4:=zoA u v q n;omega
theorem zsS(hu:∀i,u i<4294967296)(h:u n<zf2 u v q n+zbz q v n)(hc:zbz q v n<4294967296):zA u (n+1)<q*zA v n/\
  zA (zf6 u v q) n+(u n+4294967296-(zf2 u v q n+zbz q v n))*4294967296^n+q*zA v n=zA u (n+1)+4294967296*4294967296^n:=by
 have h1:=zi5 u v q n;have hb:=zn8 u v q n;have hd:zA (zf6 u v q) n<4294967296^n:=zbA (fun i _=>ziy hu i);have h2:(zf2 u v q n+zbz q v n)*4294967296^n=u n*4294967296^n+(zf2 u v q n+zbz q v n-u n)*4294967296^n:=by
  rw[<- ZK];congr 1;omega
 have h3:1*4294967296^n<=(zf2 u v q n+zbz q v n-u n)*4294967296^n:=Zl _ Ya;have h5:(u n+4294967296-(zf2 u v q n+zbz q v n))*4294967296^n+(zf2 u v q n+zbz q v n)*4294967296^n=u n*4294967296^n+4294967296*4294967296^n:=by
  rw[<- ZK,<- ZK];congr 1;omega
 constructor
 ·omega
 ·omega
theorem zdD.exact(h:zdD u v n)(hq:zA u (n+1)/zA v n<=q)(hq1:q<=zA u (n+1)/zA v n+1)(hs:zf2 u v q n+zbz q v n<=u n):
  q=zA u (n+1)/zA v n/\zA (zf6 u v q) n=zA u (n+1)%zA v n/\u n-(zf2 u v q n+zbz q v n)=0:=by
 obtain⟨h1,h2⟩:=zru hs;have hp:=h.pos;have e1:q=zA u (n+1)/zA v n:=by
  have:q<=zA u (n+1)/zA v n:=(Nat.le_div_iff_mul_le hp).2 h1;omega
 have e2:zA u (n+1)-q*zA v n=zA u (n+1)%zA v n:=by
  have:=ZaU (zA u (n+1)) (zA v n);rw[<- e1,ZD]at this;omega
 rw[e2]at h2;have h3:=Z7 (zA u (n+1)) hp;have h4:zA v n<4294967296^n:=zbA (fun i _=>h.vl i);have h5:u n-(zf2 u v q n+zbz q v n)=0:=by
  rcases ZaI (u n-(zf2 u v q n+zbz q v n))with hz|hz
  ·exact hz
  ·have:1*4294967296^n<=(u n-(zf2 u v q n+zbz q v n))*4294967296^n:=Zl _ hz;omega
 rw[h5]at h2;exact⟨e1,Ya,h5⟩
theorem zdD.again(h:zdD u v n)(hq:zA u (n+1)/zA v n<=q)(hq1:q<=zA u (n+1)/zA v n+1)(hqB:q<=4294967296)(hs:u n<zf2 u v q n+zbz q v n):
  q=zA u (n+1)/zA v n+1/\zA (zf3 (zf6 u v q) v) n=zA u (n+1)%zA v n/\u n+4294967296-(zf2 u v q n+zbz q v n)+zV (zf6 u v q) v n=4294967296:=by
 obtain⟨h1,h2⟩:=zsS h.ul hs (zk3 hqB h.vl n);have hp:=h.pos;have e1:q=zA u (n+1)/zA v n+1:=by
  have:zA u (n+1)/zA v n<q:=(ZaD hp).2 h1;omega
 have e3:q*zA v n=zA u (n+1)/zA v n*zA v n+zA v n:=by
  rw[e1];generalize zA u (n+1)/zA v n=Q;rw[ZK,Zao]
 have e4:=ZaU (zA u (n+1)) (zA v n);rw[ZD]at e4;have h3:=Z7 (zA u (n+1)) hp;have h4:zA v n<4294967296^n:=zbA (fun i _=>h.vl i);have h5:=ztQ (zf6 u v q) v n;have h6:zA (zf3 (zf6 u v q) v) n<4294967296^n:=zbA (fun i _=>ziz _ _ i);generalize hx:u n+4294967296-(zf2 u v q n+zbz q v n)=x at *;generalize zV (zf6 u v q) v n=c at *;have h7:zA (zf3 (zf6 u v q) v) n+(x+c)*4294967296^n=zA u (n+1)%zA v n+4294967296*4294967296^n:=by
  rw[ZK];omega
 have h8:x+c=4294967296:=by
  rcases Zbo (x+c) 4294967296 with hlt|he|hgt
  ·have:(x+c+1)*4294967296^n<=4294967296*4294967296^n:=Zl _ hlt;exact EM
  ·exact he
  ·have:(4294967296+1)*4294967296^n<=(x+c)*4294967296^n:=Zl _ hgt;exact EM
 rw[h8]at h7;exact⟨e1,Ya,h8⟩
end
def zaw(V j:Nat):Nat:=V/4294967296^j%4294967296
def zs2(n V:Nat):List Nat:=(List.range n).map (zaw V)
theorem zd1(V j:Nat):zaw V j<4294967296:=Z7 _ Ya
theorem zeE(V n:Nat):zA (zaw V) n=V%4294967296^n:=by
 induction n with
 | zero=>simp[zA,Nat.mod_one]
 | succ n ih=>simp only[zA];rw[Nat.mod_pow_succ,ih,ZD (4294967296^n)];rfl
theorem zpV(n V:Nat):(zs2 n V).length=n:=by simp[zs2]
theorem zaM{V j:Nat}(h:V<4294967296^j):zaw V j=0:=by unfold zaw;rw[ZaM h]
theorem zdC{f:Nat->Nat}(hf:∀i,f i<4294967296){n j:Nat}(hj:j<n):zaw (zA f n) j=f j:=by
 obtain⟨m,rfl⟩:∃m,n=j+(1+m):=⟨n-(j+1),Ya⟩
 unfold zaw;rw[zbh,Nat.add_mul_div_right _ _ (zbO j),ZaM (zbA (fun i _=>hf i)),ZR,zbh];simp only[zA,Nat.pow_zero,Zba,ZR,Nat.pow_one,ZU];rw[Nat.add_mul_mod_self_right,ZaL (hf j)]
theorem zhc{l:List Nat}(hl:Lim l)(j:Nat):zaw (zo l) j=dig l j:=by
 rcases ZaC j l.length with h|h
 ·exact zdC (fun i=>zJ hl i) h
 ·rw[zcS h];exact zaM (Zb (zct hl) (Zt Ya h))
theorem zjv{l:List Nat}(hl:Lim l):zs2 l.length (zo l)=l:=by
 apply List.ext_getElem?
 intro i
 rcases ZaC i l.length with h|h
 ·rw[zs2,ZN,Zam h,zef h,Option.map_some,zhc hl]
 ·rw[ZaW h,ZaW (by rw[zpV];exact h)]
theorem zfV(V i j:Nat):zaw (V/4294967296^i) j=zaw V (i+j):=by
 unfold zaw;rw[Zbd,<- Z9]
/-! ### Long division -/
theorem zik{W V i:Nat}(hV:0<V)(hW:W<V*4294967296^(i+1)):
  W/4294967296^i<V*4294967296/\(W/4294967296^i%V)*4294967296^i+W%4294967296^i<V*4294967296^i/\
   W=(W/4294967296^i%V)*4294967296^i+W%4294967296^i+V*(W/4294967296^i/V*4294967296^i):=by
 have hP:=zbO i;have h0:=ZaU W (4294967296^i);have h1:=Z7 W hP;rw[zaQ]at hW;generalize 4294967296^i=P at *;have h2:=ZaU (W/P) V;have h3:=Z7 (W/P) hV
 refine⟨?_,?_,?_⟩
 ·rw[ZaD hP,ZL,ZD 4294967296];exact hW
 ·have:(W/P%V+1)*P<=V*P:=Zl _ h3;exact EM
 ·have e:V*(W/P/V*P)=V*(W/P/V)*P:=by rw[ZL]
  rw[e];have e2:P*(W/P)=(W/P%V)*P+V*(W/P/V)*P:=by
   rw[<- ZK,Zbt,h2,ZD]
  omega
theorem zob{W X i n:Nat}(hX:X<4294967296^n)(j:Nat)(hW:W<4294967296^(i+n+1)):
  zaw (X*4294967296^i+W%4294967296^i) j=if j<i then zaw W j else if j<i+n then zaw X (j-i)else 0:=by
 have hP:=zbO i;have hm:=Z7 W hP
 by_cases h1:j<i
 ·rw[Zm h1];have e:∀Z:Nat,zaw Z j=zaw (Z%4294967296^i) j:=by
   intro Z;obtain⟨m,rfl⟩:∃m,i=j+(m+1):=⟨i-(j+1),Ya⟩
   unfold zaw;rw[Z9,Nat.mod_mul_right_div_self,zaQ,ZD,Nat.mod_mul_right_mod]
  rw[e (X*4294967296^i+W%4294967296^i),e W,ZD X,Nat.mul_add_mod_self_left,Nat.mod_mod]
 ·rw[Zg h1];obtain⟨k,rfl⟩:∃k,j=i+k:=⟨j-i,Ya⟩
  rw[<- zfV,ZD X,Nat.mul_add_div hP,ZaM hm,ZU,ZaO]
  by_cases h2:k<n
  ·rw[Zm Ya]
  ·rw[Zg Ya];exact zaM (Zb hX (Zt Ya Ya))
theorem zmo(a b s:Nat):(a*2^s)/(b*2^s)=a/b/\(a*2^s)%(b*2^s)/2^s=a%b:=by
 have hp:=Za0 s;exact⟨Nat.mul_div_mul_right _ _ hp,by rw[Nat.mul_mod_mul_right,Nat.mul_div_cancel _ hp]⟩
/-! ### Bits -/
theorem zqC{a b k:Nat}(hb:b<2^k)(ha:a%2^k=0):a ||| b=a+b:=by
 have e:a=2^k*(a/2^k):=by have:=ZaU a (2^k);omega
 rw[e];exact(Nat.two_pow_add_eq_or_of_lt hb _).symm
theorem zgD{a b k:Nat}(hb:b<2^k)(ha:a%2^k=0):b ||| a=b+a:=by rw[Nat.or_comm,zqC hb ha,Zbt]
theorem zlg{o:Nat->Nat}{k:Nat}(q:Nat):∀{N:Nat},k<N->o k=0->zA (fun j=>if j=k then q else o j) N=zA o N+q*4294967296^k
 | 0,h,_=>by omega
 | N+1,h,h0=>by
  simp only[zA]
  by_cases hk:k=N
  ·subst hk;rw[Zm rfl,zaj (n:=k) (g:=o) (fun i hi=>by rw[Zg Ya]),h0];simp
  ·rw[Zg (fun e=>hk e.symm),zlg q Ya h0];omega
structure zdK (X V N k W:Nat) (o:Nat->Nat):Prop where
 sum:X=W+V*zA o N
 lt:W<V*4294967296^k
 zero:∀j,j<k->o j=0
 lim:∀j,o j<4294967296
def zsZ(V k W:Nat):Nat:=(W/4294967296^k%V)*4294967296^k+W%4294967296^k
def zrU(V k W:Nat)(o:Nat->Nat):Nat->Nat:=fun j=>if j=k then W/4294967296^k/V else o j
theorem zdK.quo{X V N k W:Nat}{o:Nat->Nat}(hV:0<V)(h:zdK X V N (k+1) W o):W/4294967296^k/V<4294967296:=by
 rw[ZaD hV,ZD];exact(zik hV h.lt).1
theorem zdK.step{X V N k W:Nat}{o:Nat->Nat}(hV:0<V)(hk:k<N)(h:zdK X V N (k+1) W o):zdK X V N k (zsZ V k W) (zrU V k W o):=by
 obtain⟨h1,h2,h3⟩:=zik hV h.lt;have hq:=h.quo hV
 refine⟨?_,h2,fun j hj=>?_,fun j=>?_⟩
 ·unfold zrU;rw[zlg _ hk (h.zero k Ya),Za9];have:=h.sum;unfold zsZ;omega
 ·unfold zrU;rw[Zg Ya];exact h.zero j Ya
 ·unfold zrU;split
  ·exact hq
  ·exact h.lim j
theorem zdK.done{X V N W:Nat}{o:Nat->Nat}(h:zdK X V N 0 W o):zA o N=X/V/\W=X%V:=by
 have h1:=h.sum;have h2:=h.lt;rw[Nat.pow_zero,Zba]at h2;have hV:0<V:=Ya;rw[h1];exact⟨by rw[Nat.add_mul_div_left _ _ hV,ZaM h2,ZR],by rw[Nat.add_mul_mod_self_left,ZaL h2]⟩
theorem zdK.start{X V N:Nat}(h:X<V*4294967296^N):zdK X V N N X (fun _=>0):=
 ⟨by rw[zeT (fun _ _=>rfl)];simp,h,fun _ _=>rfl,fun _=>Ya⟩
theorem zdn{W i m:Nat}(h:W<4294967296^(i+m)):zA (fun j=>zaw W (i+j)) m=W/4294967296^i:=by
 rw[zaj (g:=zaw (W/4294967296^i)) (fun j _=>(zfV W i j).symm),zeE,ZaL];rw[ZaD (zbO i),<- Z9,Zbt m];exact h
structure zmE (y n s V:Nat):Prop where
 s32:s<32
 eq:V=y*2^s
 lt:V<4294967296^n
 top:2147483648*4294967296^(n-1)<=V
theorem zeX(y:Nat)(hn:0<(za y).length):∃lo,lo<4294967296^((za y).length-1)/\y=lo+dig (za y) ((za y).length-1)*4294967296^((za y).length-1):=by
 obtain⟨m,hm⟩:∃m,(za y).length=m+1:=⟨(za y).length-1,Ya⟩
 refine⟨zA (dig (za y)) m,?_,?_⟩
 ·rw[hm];exact zbA (fun i _=>zJ (zv y) i)
 ·have:=zg y;unfold zo at this;rw[hm]at this⊢;simp only[zA]at this;rw[ZaA];exact this.symm
theorem zrE{y L:Nat}(hn:0<(za y).length)(hL1:1<=L)(hL2:2^(L-1)<=dig (za y) ((za y).length-1))(hL3:dig (za y) ((za y).length-1)<2^L):zmE y (za y).length (32-L) (y*2^(32-L))/\L<=32:=by
 obtain⟨lo,h1,h2⟩:=zeX y hn;have hd:=zJ (zv y) ((za y).length-1);generalize dig (za y) ((za y).length-1)=d at *;have hL32:L<=32:=by
  have:2^(L-1)<2^32:=ZaB hL2 Ya;have:=(Nat.pow_lt_pow_iff_right (a:=2) Ya).1 this;omega
 have hp:2^L*2^(32-L)=4294967296:=by rw[<- Z9,show L+(32-L)=32 from Ya]
 have hp2:2^(L-1)*2^(32-L)=2147483648:=by rw[<- Z9,show L-1+(32-L)=31 from Ya]
 have h3:d*2^(32-L)+2^(32-L)<=4294967296:=by
  have:(d+1)*2^(32-L)<=2^L*2^(32-L):=Zl _ hL3
  rwa [ZK,Zao,hp]at this
 have h4:2147483648<=d*2^(32-L):=by rw[<- hp2];exact Zl _ hL2
 obtain⟨m,hm⟩:∃m,(za y).length=m+1:=⟨(za y).length-1,Ya⟩
 rw[hm,ZaA]at h1 h2;rw[hm];have hs:=Za0 (32-L)
 refine⟨⟨Ya,rfl,?_,?_⟩,hL32⟩
 ·rw[zaQ,h2,ZK];have a1:lo*2^(32-L)<4294967296^m*2^(32-L):=Nat.mul_lt_mul_of_pos_right h1 hs;have a2:(d*2^(32-L)+2^(32-L))*4294967296^m<=4294967296*4294967296^m:=Zl _ h3;rw[ZK,ZD (2^(32-L))]at a2;rw[Zbi d,ZD _ 4294967296];omega
 ·rw[ZaA,h2,ZK,Zbi d];have a2:2147483648*4294967296^m<=d*2^(32-L)*4294967296^m:=Zl _ h4;exact Zi a2 (Zbw _ _)
theorem zmE.pos{y n s V:Nat}(h:zmE y n s V):0<V:=Zb (Zak Ya (zbO _)) h.top
theorem zmE.len{y n s V:Nat}(hn:0<n)(h:zmE y n s V):(za V).length=n:=by
 have h1:=zaq h.lt;have h2:¬ (za V).length<=n-1:=fun hle=>by
  have:=Zb (zaT V) (Zt (by omega:0<4294967296) hle);have h3:=h.top;have:=zbO (n-1);omega
 omega
theorem zmE.digit{y n s V:Nat}(hn:0<n)(h:zmE y n s V):2147483648<=dig (za V) (n-1):=by
 have e:dig (za V) (n-1)=zaw V (n-1):=by rw[<- zhc (zv V),zg]
 rw[e];unfold zaw;have h1:V/4294967296^(n-1)<4294967296:=by
  rw[ZaD (zbO _),ZD,<- zaQ,show n-1+1=n from Ya];exact h.lt
 rw[ZaL h1];exact(Nat.le_div_iff_mul_le (zbO _)).2 h.top
theorem zmE.start{x y n s V:Nat}(hn:0<n)(h:zmE y n s V)(hy:4294967296^(n-1)<=y)(hl:n<=(za x).length):x*2^s<V*4294967296^((za x).length-n+1):=by
 rw[h.eq,Zbi]
 refine Nat.mul_lt_mul_of_pos_right ?_ (Za0 s)
 refine Zb (zaT x) ?_
 rw[show(za x).length=n-1+((za x).length-n+1)from Ya,Z9];rw[show n-1+((za x).length-n+1)-n+1=(za x).length-n+1 from Ya];exact Zl _ hy
theorem zoF{y:Nat}(hn:0<(za y).length):4294967296^((za y).length-1)<=y:=by
 refine Nat.le_of_not_lt fun h=>?_
 have:=zaq h;omega
structure zaf where
 neg:Bool
 num:List Nat
 den:List Nat
deriving DecidableEq
abbrev zbb(x:zaf)(an:Option Addr)(cn:Nat)(ad:Option Addr)(cd:Nat)(T:Nat):Obj:=.cells #[.bool x.neg,.slice an x.num.length cn,.slice ad x.den.length cd] T
abbrev zc9(T:Nat):Obj:=.cells #[.bool false,.slice none 0 0,.slice none 0 0] T
def zaf.Lim(x:zaf):Prop:=Go.Proofs.YtfgmmghmmfmdgaaGreat.Lim x.num/\Go.Proofs.YtfgmmghmmfmdgaaGreat.Lim x.den
def zr(d:List Nat):Nat:=if zo d=0 then 1 else zo d
theorem zU(d:List Nat):0<zr d:=by unfold zr;split<;>omega
def zbw(neg:Bool)(n d:Nat):zaf:=
 ⟨neg && decide (n≠0),za (n/Nat.gcd n d),if d/Nat.gcd n d=1 then[]else za (d/Nat.gcd n d)⟩
def zaF(x:zaf):zaf:=zbw x.neg (zo x.num) (zr x.den)
def zP(x:zaf):Bool:=decide (x=zaF x)
theorem zhX(neg:Bool){d:Nat}(hd:0<d):zbw neg 0 d=⟨false,[],[]⟩:=by
 simp[zbw,Nat.div_self hd,zy]
theorem zjM(neg:Bool){n:Nat}(hn:n≠0):zbw neg n 1=⟨neg,za n,[]⟩:=by
 simp[zbw,hn]
theorem znm(neg:Bool)(n d:Nat):(zbw neg n d).Lim:=by
 refine⟨zv _,?_⟩
 simp only[zbw]
 split
 ·intro x hx;simp at hx
 ·exact zv _
theorem znU{a b:List Nat}(ha:Lim a)(hb:Lim b)(hl:a.length=b.length)(hv:zo a=zo b):a=b:=by
 rw[<- zjv ha,<- zjv hb,hl,hv]
theorem zlX{x:zaf}(hx:x.Lim)(h:x.den=[]):zP x=(decide (zf4 x.num) && (!x.neg || decide (0<x.num.length))):=by
 obtain⟨neg,num,den⟩:=x;simp only at h;subst h;have hu:zr []=1:=by simp[zr,zcy]
 rw[ZZ];simp only[zP,zaF,hu,ZC,Zu,Bool.or_eq_true,Bool.not_eq_true']
 by_cases hn:zo num=0
 ·rw[hn,zhX neg Ya]
  constructor
  ·intro h;cases h;exact⟨.inl rfl,.inl rfl⟩
  ·rintro⟨h1,h2⟩;have h3:=zeP hx.1 h1;simp only[hn,zy]at h3;subst h3;simp at h2;subst h2;rfl
 ·rw[zjM neg hn]
  constructor
  ·intro h;simp only[zaf.mk.injEq,Z6,Z0]at h
   refine⟨by rw[h];exact zb2 _,.inr ?_⟩
   rcases ZaI num.length with h0|h0
   ·rw[Zy h0,zcy]at hn;exact absurd rfl hn
   ·exact h0
  ·rintro⟨h1,_⟩;rw[zeP hx.1 h1]
theorem zmv{x:zaf}(hx:x.Lim):zP x=(decide (x.neg=(zaF x).neg) && decide (x.num.length=(zaF x).num.length) && decide (x.den.length=(zaF x).den.length) &&
  decide (zo x.num=zo (zaF x).num) && decide (zo x.den=zo (zaF x).den)):=by
 rw[ZZ];simp only[zP,ZC,Zu];have hc:(zaF x).Lim:=znm _ _ _;generalize zaF x=c at *;obtain⟨neg,num,den⟩:=x;obtain⟨neg',num',den'⟩:=c;simp only
 constructor
 ·intro h;cases h;exact⟨⟨⟨⟨rfl,rfl⟩,rfl⟩,rfl⟩,rfl⟩
 ·rintro⟨⟨⟨⟨h1,h2⟩,h3⟩,h4⟩,h5⟩;have e1:num=num':=znU hx.1 hc.1 h2 h4;have e2:den=den':=znU hx.2 hc.2 h3 h5;rw[h1,e1,e2]
theorem zqa{l:List Nat}(h:Lim l)(k:Nat):dig l k=zo l/4294967296^k%4294967296:=by
 induction l generalizing k with
 | nil=>simp[dig,zcy]
 | cons d l ih=>
  obtain⟨h1,h2⟩:=h.cons;rw[zbs]
  cases k with
  | zero=>simp[dig];omega
  | succ k=>
   rw[zge,ih h2,Zas,ZD (4294967296^k),<- Zbd]
   congr 2
   omega
def zcc(Q k:Nat):Nat:=Q/4294967296^k%4294967296
theorem zjE(Q k:Nat):zcc Q k<4294967296:=Z7 _ Ya
theorem zkj(k:Nat):zcc 0 k=0:=by simp[zcc]
theorem zic(k:Nat):4294967296^k=2^(32*k):=by rw[Nat.pow_mul]
theorem zei(Q k t:Nat):(zcc Q k).testBit t=(decide (t<32) && Q.testBit (32*k+t)):=by
 unfold zcc;rw[zic,show(4294967296:Nat)=2^32 by rfl,Nat.testBit_mod_two_pow,Nat.testBit_div_two_pow,Zbt t]
theorem zop(Q i j:Nat):zcc (Q ||| 2^i) j=if j=i/32 then zcc Q j ||| 2^(i%32)else zcc Q j:=by
 apply Nat.eq_of_testBit_eq
 intro t;rw[zei,Nat.testBit_or,Nat.testBit_two_pow]
 by_cases hj:j=i/32
 ·rw[Zm hj,Nat.testBit_or,Nat.testBit_two_pow,zei]
  by_cases ht:t<32
  ·have:(i=32*j+t) ↔ (i%32=t):=Ya;simp[ht,this]
  ·have:i%32≠t:=Ya;simp[ht,this]
 ·rw[Zg hj,zei]
  by_cases ht:t<32
  ·have:i≠32*j+t:=Ya;simp[this]
  ·simp[ht]
theorem zj9(Q n:Nat)(h:Q<4294967296^n):zA (zcc Q) n=Q:=by
 have key:∀n,zA (zcc Q) n=Q%4294967296^n:=by
  intro n
  induction n with
  | zero=>simp[zA,Nat.mod_one]
  | succ n ih=>
   simp only[zA];rw[ih,zcc,Zas,Nat.mod_mul,ZD (Q/4294967296^n%4294967296)]
 rw[key,ZaL h]
theorem zjB(A i:Nat):A/2^i=2*(A/2^(i+1))+A/2^i%2:=by
 rw[Zas,<- Zbd];omega
theorem zm6{N B b:Nat}(hB:0<B)(hb:b<2)(h:B<=2*(N%B)+b):(2*N+b)%B=2*(N%B)+b-B/\(2*N+b)/B=2*(N/B)+1:=by
 have hm:=Z7 N hB;have e:=ZaU N B;generalize N%B=r at *;generalize N/B=q at *;subst e;have e2:2*(B*q+r)+b=B*(2*q+1)+(2*r+b-B):=by
  rw[Za9,Za9,Nat.mul_left_comm];omega
 rw[e2]
 constructor
 ·rw[Nat.mul_add_mod,ZaL Ya]
 ·rw[Nat.mul_add_div hB,ZaM Ya]
theorem zm0{N B b:Nat}(h:2*(N%B)+b<B):(2*N+b)%B=2*(N%B)+b/\(2*N+b)/B=2*(N/B):=by
 have hB:0<B:=Ya;have hm:=Z7 N hB;have e:=ZaU N B;generalize N%B=r at *;generalize N/B=q at *;subst e;have e2:2*(B*q+r)+b=B*(2*q)+(2*r+b):=by
  rw[Za9,Nat.mul_left_comm];omega
 rw[e2]
 constructor
 ·rw[Nat.mul_add_mod,ZaL h]
 ·rw[Nat.mul_add_div hB,ZaM h];omega
def zdI(A B i:Nat):Nat:=A/2^i/B*2^i
def zdO(A B i:Nat):Nat:=A/2^i%B
def zg4(A i:Nat):Nat:=A/2^i%2
theorem zle(A i:Nat):zg4 A i<2:=Z7 _ Ya
theorem zry{A B i:Nat}(hB:0<B)(h:B<=2*zdO A B (i+1)+zg4 A i):zdO A B i=2*zdO A B (i+1)+zg4 A i-B/\zdI A B i=zdI A B (i+1) ||| 2^i:=by
 obtain⟨h1,h2⟩:=zm6 hB (zle A i) h;have e:2*(A/2^(i+1))+zg4 A i=A/2^i:=(zjB A i).symm;rw[e]at h1 h2
 refine⟨h1,?_⟩
 unfold zdI;rw[h2,ZD (A/2^(i+1)/B),<- Nat.two_pow_add_eq_or_of_lt (by rw[Zas];have:=Za0 i;omega),Zas,ZK,Zao,ZD 2,ZL,ZD (A/(2^i*2)/B),ZD (2^i) 2]
theorem zrs{A B i:Nat}(h:2*zdO A B (i+1)+zg4 A i<B):zdO A B i=2*zdO A B (i+1)+zg4 A i/\zdI A B i=zdI A B (i+1):=by
 obtain⟨h1,h2⟩:=zm0 h;have e:2*(A/2^(i+1))+zg4 A i=A/2^i:=(zjB A i).symm;rw[e]at h1 h2
 refine⟨h1,?_⟩
 unfold zdI;rw[h2,Zas,ZD 2,ZL,ZD 2]
theorem zqJ{A B n:Nat}(h:A<2^n):zdO A B n=0/\zdI A B n=0:=by
 unfold zdO zdI;rw[ZaM h];simp
theorem zqQ(A B:Nat):zdO A B 0=A%B/\zdI A B 0=A/B:=by simp[zdO,zdI]
theorem zpX(A B i:Nat):zdI A B i<=A:=
 Zi (Zl _ (Za1 _ _)) (Nat.div_mul_le_self _ _)
theorem zn3{l:List Nat}(h:Lim l)(i:Nat):zg4 (zo l) i=dig l (i/32)/2^(i%32)%2:=by
 rw[zqa h];have h1:∀x n:Nat,x/2^n%2=(x.testBit n).toNat:=fun x n=>by
  rw[Nat.testBit_eq_decide_div_mod_eq];have:=Z7 (x/2^n) (show 0<2 from Ya)
  by_cases h:x/2^n%2=1<;>simp[h];omega
 unfold zg4;rw[h1,h1];have:=zei (zo l) (i/32) (i%32);unfold zcc at this;rw[this,Zk (Z7 _ Ya),Z4,ZaU]
