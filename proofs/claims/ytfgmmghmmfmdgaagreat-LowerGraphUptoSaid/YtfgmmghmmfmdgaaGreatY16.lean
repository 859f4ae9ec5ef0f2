/-
  Contracts: EvC, EvP, EvQ, EvH, EvJ, EvK, EvD, EvE, EvF, EvG, EvL, EvR, EvU, EvT, EvV, EvW, EvZ, PvB, EvX, EvY, PvC, PvD, LwA.
-/
import Derived.Test.YtfgmmghmmfmdgaaGreatY13
import Derived.Test.YtfgmmghmmfmdgaaGreatY15
import Derived.Test.YtfgmmghmmfmdgaaGreatY0
set_option linter.all false
set_option maxRecDepth 100000
set_option maxHeartbeats 3200000
namespace Go.Proofs.YtfgmmghmmfmdgaaGreat
open Go.RowKit
open Go.Lib (hid)
variable {n k lo j b B D C c:Nat} {i:Int} {w:World} {l:List Rat} {q p:Rat} {x:zaI}
theorem E8{P:Prop}(h:P:=by
 intro k
 induction k with
 | zero=>simp
 | succ k ih=>rw[Zad,List.flatMap_append,ZB,ih,Zaa];simp
):P:=h
def zcq(n:Nat):List Int:=(List.range n).map fun k:Nat=>(k:Int)
theorem zdS(n:Nat):(zcq n).length=n:=by simp[zcq]
theorem zlp(n:Nat):zcq (n+1)=zcq n++[(n:Int)]:=by simp[zcq,Zad]
theorem zo3(h:k<n):(zcq n).getD k 0=(k:Int):=by
 rw[Zf,zcq,ZV,ZaS h];rfl
theorem zjc(h:i∈zcq n):0<=i/\i<n:=by
 simp only[zcq,ZX,Z5]at h;obtain⟨k,h1,rfl⟩:=h;omega
def zb9{α:Type}(l:List α)(lo n:Nat):List α:=(l.drop lo).take n
theorem zeN{α:Type}{l:List α}(h:lo+n<=l.length):(zb9 l lo n).length=n:=by simp[zb9];omega
theorem ziq{α β:Type}(f:α->β)(l:List α)(lo n:Nat):zb9 (l.map f) lo n=(zb9 l lo n).map f:=by simp[zb9,List.map_drop,List.map_take]
theorem zgi{α:Type}{l:List α}{x:α}(h:x∈zb9 l lo n):x∈l:=Zau (Z4 h)
theorem zkd{α:Type}{l:List α}(hj:j<n):(zb9 l lo n)[j]? =l[lo+j]? :=by
 unfold zb9;rw[List.getElem?_take,Zq hj,List.getElem?_drop]
def zjs(bs ws x:List Rat)(r:Nat):Rat:=zsk (bs.getD r 0) (zb9 ws (r*x.length) x.length) 0 (zcq x.length) x
def zmM(R:Nat)(bs ws x:List Rat):List Rat:=(List.range R).map (zjs bs ws x)
def zmc(bs ws:List Rat)(n:Nat)(win:List (List Int))(x:List Rat)(o i:Nat):Rat:=zsk (bs.getD o 0) (zb9 ws (o*n) n) 0 (win.getD i []) x
def zoq(O:Nat)(bs ws:List Rat)(n:Nat)(win:List (List Int))(x:List Rat):List Rat:=(List.range O).flatMap fun o=>(List.range win.length).map (zmc bs ws n win x o)
def zpK(f:List Rat->Rat)(n:Nat)(win:List (List Int))(x:List Rat)(ch i:Nat):Rat:=f (zmS (zb9 (win.getD i []) (ch*n) n) x)
def zjl(f:List Rat->Rat)(C n:Nat)(win:List (List Int))(x:List Rat):List Rat:=(List.range C).flatMap fun ch=>(List.range win.length).map (zpK f n win x ch)
def zoj(x:List Rat):List Rat:=x.map fun q=>ze4 q 0
def zqA(x y:List Rat):List Rat:=(List.range x.length).map fun k=>x.getD k 0+y.getD k 0
theorem zN.sub{off:Nat}{l:List zaI}(h:zN w (some ⟨b,off,none⟩) l)(hn:lo+n<=l.length):zN w (some ⟨b,off+lo*3,none⟩) (zb9 l lo n):=by
 have hlen:(zb9 l lo n).length=n:=zeN hn
 refine⟨by have:=h.len;omega,?_⟩
 rcases h.row with rfl|⟨b',off',hb,hs,hc⟩
 ·exact .inl (by simp[zb9])
 ·cases hb
  refine .inr ⟨b,off+lo*3,rfl,hs,fun j d hj=>?_⟩
  have hj':j<n:=by have:=(Zu.1 hj).1;omega
  rw[zkd hj']at hj;have:=hc (lo+j) d hj;rw[ZI,<- ZaT]at this;exact this
def zch(kd fr ot kh kw st pd:Int)(a1:Option Addr)(n1 c1:Nat)(a2:Option Addr)(n2 c2:Nat):Value:=
 .agg #[.int .i64 kd,.int .i64 fr,.int .i64 ot,.int .i64 kh,.int .i64 kw,.int .i64 st,.int .i64 pd,.slice a1 n1 c1,.slice a2 n2 c2]
structure zkI (W:World) (g:Nat) (kd fr ot kh kw st pd:Int) (a1:Option Addr) (n1 c1:Nat) (a2:Option Addr) (n2 c2:Nat):Prop where
 f0:W.cell? ⟨g,0,none⟩=some (.int .i64 kd)
 f2:W.cell? ⟨g,2,none⟩=some (.int .i64 ot)
 f3:W.cell? ⟨g,3,none⟩=some (.int .i64 kh)
 f4:W.cell? ⟨g,4,none⟩=some (.int .i64 kw)
 f5:W.cell? ⟨g,5,none⟩=some (.int .i64 st)
 f6:W.cell? ⟨g,6,none⟩=some (.int .i64 pd)
 f7:W.cell? ⟨g,7,none⟩=some (.slice a1 n1 c1)
 f8:W.cell? ⟨g,8,none⟩=some (.slice a2 n2 c2)
 lt:g<W.heap.size
theorem zkI.below{W W':World}{g:Nat}{kd fr ot kh kw st pd:Int}{a1:Option Addr}{n1 c1:Nat}{a2:Option Addr}{n2 c2:Nat}(h:zkI W g kd fr ot kh kw st pd a1 n1 c1 a2 n2 c2)(hb:Below B W W')(hg:g<B):zkI W' g kd fr ot kh kw st pd a1 n1 c1 a2 n2 c2:=
 ⟨(hb.cell (p:=⟨g,0,none⟩) hg).trans h.f0,(hb.cell (p:=⟨g,2,none⟩) hg).trans h.f2,(hb.cell (p:=⟨g,3,none⟩) hg).trans h.f3,(hb.cell (p:=⟨g,4,none⟩) hg).trans h.f4,(hb.cell (p:=⟨g,5,none⟩) hg).trans h.f5,
  (hb.cell (p:=⟨g,6,none⟩) hg).trans h.f6,(hb.cell (p:=⟨g,7,none⟩) hg).trans h.f7,(hb.cell (p:=⟨g,8,none⟩) hg).trans h.f8,Zd h.lt hb.size⟩
theorem zkI.alloc(W:World)(kd fr ot kh kw st pd:Int)(a1:Option Addr)(n1 c1:Nat)(a2:Option Addr)(n2 c2:Nat)(T:Nat):
  zkI (W.alloc (.cells #[.int .i64 kd,.int .i64 fr,.int .i64 ot,.int .i64 kh,.int .i64 kw,.int .i64 st,.int .i64 pd,.slice a1 n1 c1,.slice a2 n2 c2] T)) W.heap.size kd fr ot kh kw st pd a1 n1 c1 a2 n2 c2:=
 ⟨by rw[World.cell?_alloc_at _ _ _ _ rfl];rfl,by rw[World.cell?_alloc_at _ _ _ _ rfl];rfl,by rw[World.cell?_alloc_at _ _ _ _ rfl];rfl,by rw[World.cell?_alloc_at _ _ _ _ rfl];rfl,by rw[World.cell?_alloc_at _ _ _ _ rfl];rfl,
  by rw[World.cell?_alloc_at _ _ _ _ rfl];rfl,by rw[World.cell?_alloc_at _ _ _ _ rfl];rfl,by rw[World.cell?_alloc_at _ _ _ _ rfl];rfl,Yd⟩
def zjO(f:Nat->Nat->Rat)(T k i:Nat):List Rat:=((List.range k).flatMap fun o=>(List.range T).map (f o))++(List.range i).map (f k)
theorem znH(f:Nat->Nat->Rat)(T k i:Nat):((zjO f T k i).map zh).length=k*T+i:=by
 have:∀k,((List.range k).flatMap fun o=>(List.range T).map (f o)).length=k*T:=E8;simp only[zjO,ZP,ZB,this,Zaj]
theorem zkU(O:Nat)(bs ws:List Rat)(n:Nat)(win:List (List Int))(x:List Rat):zoq O bs ws n win x=zjO (zmc bs ws n win x) win.length O 0:=by simp[zjO,zoq]
theorem zlz(g:List Rat->Rat)(C n:Nat)(win:List (List Int))(x:List Rat):zjl g C n win x=zjO (zpK g n win x) win.length C 0:=by simp[zjO,zjl]
theorem zd5:zh 0=⟨false,[],[]⟩:=by simp[zh,zr]
structure Bd (D B:Nat) (q:Rat):Prop where
 pos:0<D
 ex:∃n:Int,q=mkRat n D/\n.natAbs<=B*D
theorem Bd.zero(h:0<D):Bd D B 0:=⟨h,0,by simp[Rat.zero_mkRat],Yd⟩
theorem Bd.mono{B':Nat}(h:Bd D B q)(hb:B<=B'):Bd D B' q:=by
 obtain⟨n,e,hn⟩:=h.ex;exact⟨h.pos,n,e,Zl hn (Zp _ hb)⟩
theorem Bd.bump(h:Bd D B q)(hk:0<k):Bd (D*k) B q:=by
 obtain⟨n,e,hn⟩:=h.ex
 refine⟨Zaw h.pos hk,n*k,?_,?_⟩
 ·rw[e,Rat.mkRat_mul_right Ya]
 ·rw[Int.natAbs_mul,Int.natAbs_natCast,<- ZM];exact Zp _ hn
theorem Bd.add(h:Bd D B p)(g:Bd D C q):Bd D (B+C) (p+q):=by
 obtain⟨n,e,hn⟩:=h.ex;obtain⟨m,e',hm⟩:=g.ex;have hD:=h.pos
 refine⟨hD,n+m,?_,?_⟩
 ·rw[e,e',Rat.mkRat_add_mkRat _ _ Ya Ya,<- Int.add_mul,Rat.mkRat_mul_right Ya]
 ·have:=Int.natAbs_add_le n m;rw[ZI];omega
theorem Bd.mul{E:Nat}(h:Bd D B p)(g:Bd E C q):Bd (D*E) (B*C) (p*q):=by
 obtain⟨n,e,hn⟩:=h.ex;obtain⟨m,e',hm⟩:=g.ex
 refine⟨Zaw h.pos g.pos,n*m,?_,?_⟩
 ·rw[e,e',Rat.mkRat_mul_mkRat]
 ·rw[Int.natAbs_mul];have:=Z8 hn hm;rw[show B*C*(D*E)=B*D*(C*E) by ac_rfl];exact this
theorem Bd.neg(h:Bd D B q):Bd D B (-q):=by
 obtain⟨n,e,hn⟩:=h.ex;exact⟨h.pos,-n,by rw[e,Rat.neg_mkRat],by rw[Int.natAbs_neg];exact hn⟩
theorem Bd.sub(h:Bd D B p)(g:Bd D C q):Bd D (B+C) (p-q):=by
 rw[Rat.sub_eq_add_neg];exact h.add g.neg
theorem Bd.le(h:Bd D B q)(hk:B*D+D<4294967296^k):zaf (zh q) k:=by
 obtain⟨n,e,hn⟩:=h.ex;have hD:=h.pos;have h1:q.num.natAbs<=n.natAbs:=by
  rw[e,Rat.num_mkRat]
  split
  ·simp
  ·rw[Int.natAbs_ediv_of_dvd]
   ·exact Za9 _ _
   ·exact Int.ofNat_dvd_left.2 (Nat.gcd_dvd_right _ _)
 have h2:q.den<=D:=by
  rw[e,Rat.den_mkRat]
  split
  ·omega
  ·exact Za9 _ _
 constructor
 ·exact zaC Ya
 ·show(if q.den=1 then[]else ze q.den).length<=k
  split
  ·exact Zs _
  ·exact zaC Ya
def BdL(D B:Nat)(l:List Rat):Prop:=∀q∈l,Bd D B q
theorem BdL.at(h:BdL D B l)(hD:0<D)(k:Nat):Bd D B (l.getD k 0):=by
 rw[Zf]
 by_cases hk:k<l.length
 ·rw[Zn hk];exact h _ (ZaR _)
 ·rw[Za2 Ya];exact Bd.zero hD
theorem BdL.part(h:BdL D B l)(lo n:Nat):BdL D B (zb9 l lo n):=fun q hq=>h q (zgi hq)
theorem BdL.nil(D B:Nat):BdL D B []:=fun q hq=>by cases hq
theorem Bd.divN(h:Bd D (n*B) q)(hn:0<n):Bd (D*n) B (q/((n:Int):Rat)):=by
 obtain⟨m,e,hm⟩:=h.ex;have hD:=h.pos
 refine⟨Zaw hD hn,m,?_,?_⟩
 ·have e1:((n:Int):Rat)≠0:=by
   intro h0;have:(n:Int)=0:=by exact_mod_cast h0
   omega
  have e2:mkRat m D=mkRat m (D*n)*((n:Int):Rat):=by
   rw[show((n:Int):Rat)=mkRat (n:Int) 1 by simp[Zbc],Rat.mkRat_mul_mkRat,Zbp,Rat.mkRat_mul_right Ya]
  rw[e,e2,Rat.mul_div_cancel e1]
 ·rw[show B*(D*n)=n*B*D by ac_rfl];exact hm
theorem BdL.small{C:Nat}:∀(l:List Rat),(∀q∈l,q.den<=4294967296/\q.num.natAbs<=C)->∃W,0<W/\W<=4294967296^l.length/\BdL W C l
 | [],_=>⟨1,Ya,Yd,BdL.nil _ _⟩
 | q::r,h=>by
  obtain⟨W,h1,h2,h3⟩:=BdL.small r (fun p hp=>h p (by simp[hp]));obtain⟨g1,g2⟩:=h q Yd;have hq:Bd q.den C q:=⟨q.den_pos,q.num,(Rat.mkRat_self q).symm,Zl g2 (ZaN _ q.den_pos)⟩
  refine⟨W*q.den,Zaw h1 q.den_pos,?_,?_⟩
  ·rw[ZJ,ZaQ];exact Z8 h2 g1
  ·intro p hp
   rcases Zbd.1 hp with rfl|hp
   ·rw[Zz];exact hq.bump h1
   ·exact(h3 p hp).bump q.den_pos
theorem Win.mem_one{q:Win}{ix:List Int}(h:ix∈q.all):∃r c,r<q.R/\c<q.Q/\ix=q.one r c:=by
 simp only[Win.all,Win.rowOf,Zbf,ZX,Z5]at h;obtain⟨r,hr,c,hc,rfl⟩:=h;exact⟨r,c,hr,hc,rfl⟩
theorem Win.mem_at{q:Win}{r:Nat}(h:i∈q.one r c):∃ch a b,ch<q.C/\a<q.kh/\b<q.kw/\i=q.at r c ch a b:=by
 simp only[Win.one,Win.chan,Win.line,Zbf,ZX,Z5]at h;obtain⟨ch,hch,a,ha,b,hb,rfl⟩:=h;exact⟨ch,a,b,hch,ha,hb,rfl⟩
theorem Win.all_one_len'{q:Win}:∀ix∈q.all,ix.length=q.C*(q.kh*q.kw):=by
 intro ix h;obtain⟨r,c,_,_,rfl⟩:=q.mem_one h;exact q.one_len r c
theorem Win.Ok.all_lt{q:Win}(h:q.Ok):∀ix∈q.all,∀i∈ix,i<((q.C*q.H*q.W:Nat):Int):=by
 intro ix hx i hi;obtain⟨r,c,_,_,rfl⟩:=q.mem_one hx;obtain⟨ch,a,b,hch,_,_,rfl⟩:=q.mem_at hi;have:=(h.at_bd (r:=r) (c:=c) (i:=a) (k:=b) hch).2
 simpa using this
theorem Win.Ok.all_nn{q:Win}(h:q.Ok)(hp:q.p=0):∀ix∈q.all,∀i∈ix,0<=i:=by
 intro ix hx i hi;obtain⟨r,c,hr,hc,rfl⟩:=q.mem_one hx;obtain⟨ch,a,b,hch,ha,hb,rfl⟩:=q.mem_at hi;rw[(h.bare hp hr hc (ch:=ch) ha hb).1];have r0:(0:Int)<=(r:Int)*q.s:=Int.mul_nonneg Ya Ya;have c0:(0:Int)<=(c:Int)*q.s:=Int.mul_nonneg Ya Ya;have h0:(0:Int)<=(ch:Int)*q.H:=Int.mul_nonneg Ya Ya;have h1:(0:Int)<=((ch:Int)*q.H+((r:Int)*q.s+a))*q.W:=Int.mul_nonneg Ya Ya;omega
inductive zqN (l:zae) (s:List Int):Prop
 | dense (R:Nat) (hk:l.kind=1) (ho:l.out=(R:Int)) (h1:1<=R) (h2:R<=16384) (hb:l.bias.length=R) (hw:l.weights.length=R*(zJ s).toNat)
 | conv (q:Win) (O:Nat) (hk:l.kind=2) (hq:q.Ok) (ht:q.total<=262144) (hs:s=[(q.C:Int),(q.H:Int),(q.W:Int)]) (e1:l.kh=(q.kh:Int)) (e2:l.kw=(q.kw:Int)) (e3:l.stride=(q.s:Int)) (e4:l.pad=(q.p:Int))
   (ho:l.out=(O:Int)) (h1:1<=O) (hb:l.bias.length=O) (hw:l.weights.length=O*(q.C*q.kh*q.kw)) (hwl:zA s l.kh l.kw l.stride l.pad=(q.all,(q.R:Int),(q.Q:Int),0)) (hz:O*(q.R*q.Q)<=16384)
 | pool (q:Win) (hk:l.kind=3∨l.kind=4) (hq:q.Ok) (ht:q.total<=262144) (hs:s=[(q.C:Int),(q.H:Int),(q.W:Int)]) (e1:l.kh=(q.kh:Int)) (e2:l.kw=(q.kw:Int)) (e3:l.stride=(q.s:Int)) (e4:l.pad=0) (hp:q.p=0) (hwl:zA s l.kh l.kw l.stride 0=(q.all,(q.R:Int),(q.Q:Int),0))
   (hz:q.C*(q.R*q.Q)<=16384)
 | keep (hk:l.kind=5∨l.kind=6)
 | add (hk:l.kind=7)
def wq(l:zae):List Rat:=l.weights.map zbc
def bq(l:zae):List Rat:=l.bias.map zbc
def znX(l:zae)(s:List Int)(x y:List Rat):List Rat:=
 if l.kind=1 then zmM l.out.toNat (bq l) (wq l) x
 else if l.kind=2 then zoq l.out.toNat (bq l) (wq l) ((s.getD 0 0).toNat*l.kh.toNat*l.kw.toNat) (zA s l.kh l.kw l.stride l.pad).1 x
 else if l.kind=3 then zjl zjH (s.getD 0 0).toNat (l.kh.toNat*l.kw.toNat) (zA s l.kh l.kw l.stride 0).1 x
 else if l.kind=4 then zjl zsG (s.getD 0 0).toNat (l.kh.toNat*l.kw.toNat) (zA s l.kh l.kw l.stride 0).1 x
 else if l.kind=5 then zoj x
 else if l.kind=7 then zqA x y
 else x
theorem zpk{s:List Int}{kh kw st p:Int}(h:(zA s kh kw st p).2.2.2=0):∃q:Win,q.Ok/\q.total<=262144/\s=[(q.C:Int),(q.H:Int),(q.W:Int)]/\kh=q.kh/\kw=q.kw/\st=q.s/\p=q.p/\zA s kh kw st p=(q.all,(q.R:Int),(q.Q:Int),0):=by
 cases h1:zbf s kh kw st p with
 | true=>rw[zcM h1]at h;simp at h
 | false=>
  cases h2:zaU s kh kw p with
  | true=>rw[zbX h1 h2]at h;simp at h
  | false=>
   by_cases h3:262144<(zek s kh kw st p).total
   ·rw[zdq h1 h2 h3]at h;simp at h
   ·obtain⟨q,hq,hw,e0,e1,e2,e3,e4⟩:=zfS h1 h2;rw[hw]at h3
    refine⟨q,hq,Ya,e0,e1,e2,e3,e4,?_⟩
    rw[zez h1 h2 (by rw[hw];exact h3),hw]
theorem zfv{a:Nat}(h:zm [(a:Int),(b:Int),(c:Int)]=true):a*(b*c)<=16384:=by
 have h1:=(zao h).2;rw[zJ,Zq h]at h1;simp only[za3,Int.one_mul]at h1;have:(((a*b*c:Nat)):Int)<=16384:=by simpa using h1
 rw[<- ZM];omega
theorem zfz{input:List Int}{S:List (List Int)}{l:zae}(h:(zY input S l).2=0):zqN l (zk input S)/\zem l=true/\
  (l.kind=7-> -1<=l.frm/\l.frm<S.length/\(if 0<=l.frm then S.getD l.frm.toNat []else input)=zk input S):=by
 rcases zbT input S l with⟨h1,_,_⟩|⟨hc,⟨h1,_,_⟩|⟨_,_,hr,hv⟩⟩
 ·omega
 ·omega
 ·simp only[Zw]at hc;obtain⟨⟨_,_,hl⟩,_⟩:=hc;unfold zag at hl;rw[Zw]at hl;obtain⟨hl,hn⟩:=hl;unfold zcQ at hl;unfold za5 at hr hv
  by_cases k1:l.kind=1
  ·rw[Zq k1]at hl hr hv;simp only[zgT,ziD,Zw,Zy]at hl hr;obtain⟨⟨o1,o2⟩,⟨b1,b2,b3,b4⟩,_⟩:=hl
   refine⟨.dense l.out.toNat k1 Ya Ya Ya Ya ?_,hn,fun h=>Ya⟩
   have e:l.out=(l.out.toNat:Int):=Ya
   by_cases hs:0<=zJ (zk input S)
   ·have e2:zJ (zk input S)=((zJ (zk input S)).toNat:Int):=Ya;rw[e,e2]at hr;have:((l.weights.length:Nat):Int)=((l.out.toNat*(zJ (zk input S)).toNat:Nat):Int):=by rw[hr];simp
    exact Int.ofNat_inj.1 this
   ·exfalso
    have:l.out*zJ (zk input S)<0:=Int.mul_neg_of_pos_of_neg Ya Ya;omega
  rw[Zh k1]at hl hr hv
  by_cases k2:l.kind=2
  ·rw[Zq k2]at hl hr hv;simp only[zgT,ziD,zdb,Zw,Zy]at hl hr;obtain⟨⟨o1,o2⟩,_,_,_,_,⟨b1,_⟩,_⟩:=hl;obtain⟨hw0,hwe⟩:=hr;obtain⟨q,hq,ht,e0,e1,e2,e3,e4,hwl⟩:=zpk hw0;unfold zaz at hv;rw[hwl]at hv;have eo:l.out=(l.out.toNat:Int):=Ya;rw[eo]at hv
   refine⟨.conv q l.out.toNat k2 hq ht e0 e1 e2 e3 e4 eo Ya Ya ?_ hwl (zfv hv),hn,fun h=>Ya⟩
   rw[e0,e1,e2,eo]at hwe;have:((l.weights.length:Nat):Int)=((l.out.toNat*(q.C*q.kh*q.kw):Nat):Int):=by
    rw[hwe];simp only[List.getD_cons_zero,Zba,Int.mul_assoc]
   omega
  rw[Zh k2]at hl hr hv
  by_cases k3:l.kind=3∨l.kind=4
  ·rw[Zq k3]at hl hr hv;simp only[zdb,Zw,Zy]at hl hr;obtain⟨_,⟨_,_,hp⟩,_⟩:=hl;obtain⟨q,hq,ht,e0,e1,e2,e3,e4,hwl⟩:=zpk hr;unfold zaz at hv;rw[hwl]at hv;rw[e0]at hv;exact⟨.pool q k3 hq ht e0 e1 e2 e3 hp Ya (by rw[hp]at hwl;exact hwl) (zfv hv),hn,fun h=>Ya⟩
  rw[Zh k3]at hl
  by_cases k5:l.kind=5∨l.kind=6
  ·exact⟨.keep k5,hn,fun h=>Ya⟩
  rw[Zh k5]at hl
  by_cases k7:l.kind=7
  ·rw[Zq k7]at hl;simp only[Zw,Zy]at hl;rw[Zh k3,Zh Ya,Zq k7]at hr;exact⟨.add k7,hn,fun _=>⟨hl.1,hl.2.1,by simpa [zbY]using hr⟩⟩
  ·rw[Zh k7]at hl;cases hl
theorem zg9(f:Nat->Nat->Rat)(T k i:Nat):(zjO f T k i).length=k*T+i:=by have:=znH f T k i;rwa [ZP]at this
theorem zj4{input:List Int}{S:List (List Int)}{l:zae}{x y:List Rat}(h:(zY input S l).2=0)(hx:(x.length:Int)=zJ (zk input S)):((znX l (zk input S) x y).length:Int)=zJ (zY input S l).1:=by
 have hv:=zcy h
 rcases zbT input S l with⟨h1,_,_⟩|⟨_,⟨h1,_,_⟩|⟨_,h2,_,_⟩⟩
 ·omega
 ·omega
 by_cases hk:5<=l.kind
 ·rw[zj3 h hk,<- hx];unfold znX;rw[Zh Ya,Zh Ya,Zh Ya,Zh Ya]
  split
  ·simp[zoj]
  ·split
   ·simp[zqA]
   ·rfl
 ·obtain⟨hf,_,_⟩:=zfz h;rw[h2]at hv⊢;unfold za5 at hv⊢
  cases hf with
  | dense R hk ho h1 h2 hb hw=>
   rw[Zq hk]at hv⊢;unfold znX;rw[Zq hk,zJ,Zq hv];simp only[za3,Int.one_mul,zmM,ZP,Zaj];omega
  | conv q O hk hq ht hs e1 e2 e3 e4 ho h1 hb hw hwl hz=>
   rw[Zh Ya,Zq hk]at hv⊢;unfold zaz at hv⊢;rw[hwl]at hv⊢;unfold znX;rw[Zh Ya,Zq hk,hwl,zJ,Zq hv,zkU];rw[zg9,q.all_len,ho];simp only[za3,Int.one_mul];simp[Int.mul_assoc]
  | pool q hk hq ht hs e1 e2 e3 e4 hp hwl hz=>
   rw[Zh Ya,Zh Ya,Zq hk]at hv⊢;unfold zaz at hv⊢;rw[e4,hwl]at hv⊢;have hC:(zk input S).getD 0 0=(q.C:Int):=Ud;have key:∀f:List Rat->Rat,((zjl f ((zk input S).getD 0 0).toNat (l.kh.toNat*l.kw.toNat) q.all x).length:Int)=zJ [(zk input S).getD 0 0,(q.R:Int),(q.Q:Int)]:=by
    intro f;rw[zJ,Zq hv,zlz];rw[zg9,q.all_len,hC];simp only[za3,Int.one_mul];simp[Int.mul_assoc]
   unfold znX;rw[Zh Ya,Zh Ya,hwl]
   rcases hk with hk|hk
   ·rw[Zq hk];exact key _
   ·rw[Zh Ya,Zq hk];exact key _
  | keep hk=>omega
  | add hk=>omega
def zkT(x:List Rat)(Y:List (List Rat)):List Rat:=Y.getLast?.getD x
def zoO(x:List Rat)(Y:List (List Rat))(f:Int):List Rat:=if 0<=f then Y.getD f.toNat []else x
def WQ:Nat:=4294967296^240*4294967296^240
theorem zeH:1<=WQ:=Zaw (Nat.one_le_pow _ _ Ya) (Nat.one_le_pow _ _ Ya)
theorem zo0(M a n:Nat)(hM:1<=M)(hn:n<=a+a):M^n<=M^a*M^a:=by rw[<- Zaf];exact ZE hM hn
theorem zkP{W:Nat}(h:W<=4294967296^n)(hn:n<=480):W<=WQ:=Zl h (zo0 4294967296 240 n Ya hn)
theorem zoT(M a b c:Nat)(h:a+b=c):M^a*M^b=M^c:=by rw[<- Zaf,h]
theorem zq1:∃p:Nat,p=480/\WQ=4294967296^p:=⟨480,rfl,zoT 4294967296 240 240 480 rfl⟩
structure zdM (l:zae):Prop where
 num:∀q∈wq l++bq l,q.den<=4294967296/\q.num.natAbs<=18446744073709551616
 len:(wq l++bq l).length<=480
theorem zlS(hn:n<=262144)(hB:1<=B):18446744073709551616+n*(18446744073709551616*B)<=9671406556917033397649408*B:=by
 have:n*(18446744073709551616*B)<=262144*(18446744073709551616*B):=Zp _ hn;omega
theorem zlT{base T:Nat}{v:Value}{xs:List Value}(h:w.ownsRow base T 1 v n xs):∃a c,v=.slice a n c:=by
 rcases h.2 with⟨rfl,hn⟩|⟨g,cap,cur,rfl,hb,hg,hnc,hcm,hcs,htake⟩
 ·exact⟨none,0,by rw[hn]⟩
 ·exact⟨_,cap,rfl⟩
theorem Bd.small{M N:Nat}(h:Bd D B q)(hD:D<=M)(hB:B<=N)(hk:N*M+M<4294967296^k):zaf (zh q) k:=
 h.le (ZaG (Nat.add_le_add (Z8 hB hD) hD) hk)
theorem zbL:∀{L:List zaI},L.all zL=true->L=(L.map zbc).map zh
 | [],_=>rfl
 | x::r,h=>by
  rw[List.all_cons,Zw]at h;have h1:=h.1;unfold zL at h1;rw[Zy,zcz]at h1;rw[ZbB,ZbB,<- zbL h.2,<- h1]
def zp2(D B:Nat):Prop:=(9671406556917033397649408*B)*(D*WQ)+D*WQ<4294967296^524285
theorem RatV.parts{an ad:Option Addr}{cn cd:Nat}(h:RatV w (.agg #[.bool x.neg,.slice an x.num.length cn,.slice ad x.den.length cd]) x):x.num.length<=cn/\x.den.length<=cd/\zt w an x.num/\zt w ad x.den:=by
 obtain⟨an',ad',cn',cd',e,h2,h3,h4,h5⟩:=h.ex;cases e;exact⟨h2,h3,h4,h5⟩
theorem zlK(w:World)(T:Nat):(w.alloc (.cells #[] T)).heap[w.heap.size]? =some (.cells #[] T (0,0)):=by
 show(w.heap.push _)[w.heap.size]? =_
 exact Ij
theorem run_storeF{P:Program}{w:World}(a:Addr)(m:Mode)(f:Fn)(x y:Array Value):(store a (.func f x y) m).run P w=stored P w a (.func f x y) m:=run_store P w a _ m rfl
attribute [local go_sem] run_storeF
def zbF(x:zaI):Bool:=decide (x.num.length<=2) && decide (x.den.length<=1)
def zaX(L:List zaI):Bool:=L.all zbF && L.all zL
theorem zmN{L:List zaI}(hx:L[j]? =some x):(L.take (j+1)).all zbF=((L.take j).all zbF && zbF x):=by
 rw[zaq hx,ZbA];simp
def zdA(l:zae):Bool:=decide (l.weights.length<=60) && (decide (l.bias.length<=60) && (zaX l.weights && zaX l.bias))
def ziV(m:zgt)(L:List zaI):Bool:=decide (m.layers.length<=8) && (decide (zJ m.input<=30) && (decide (L.length<=30) && (decide (m.input.length<=8) && (m.layers.all zdA && zaX L))))
theorem zmg{L:List zae}{x:zae}(hx:L[j]? =some x):(L.take (j+1)).all zdA=((L.take j).all zdA && zdA x):=by
 rw[zaq hx,ZbA];simp
