/-
  Contracts: OpenQ, OpenS.
-/
import Derived.Test.YtfgmmghmmfmdgaaGreatO2
import Derived.Test.YtfgmmghmmfmdgaaGreatO8
import Derived.Test.YtfgmmghmmfmdgaaGreatO0
set_option linter.all false
set_option maxRecDepth 100000
set_option maxHeartbeats 3200000
namespace Go.Proofs.YtfgmmghmmfmdgaaGreat
open Go.RowKit Go.ChangeShapes Go.WideShapes Go.ChangeAt Go.Deep
open Go.Lib (hid)
theorem zgY{α:Type}{Pr:Nat->α->Prop}:∀(len:Nat),(∀i,i<len->∃x,Pr i x)->∃L:List α,L.length=len/\∀(j:Nat) (x:α),L[j]? =some x->Pr j x:=by
 intro len
 induction len with
 | zero=>intro _;exact⟨[],rfl,Yc⟩
 | succ n ih=>
  intro h;obtain⟨L,h1,h2⟩:=ih (fun i hi=>h i Ya);obtain⟨y,hy⟩:=h n Ya
  refine⟨L++[y],by simp[h1],fun j x hj=>?_⟩
  by_cases hjn:j<n
  ·rw[Zz Ya]at hj;exact h2 j x hj
  ·rw[ZI Ya]at hj;have hlt:=(Zr.1 hj).1;simp at hlt;obtain rfl:j=n:=Ya;rw[h1,Nat.sub_self]at hj;simp at hj;subst hj;exact hy
theorem zse{α:Type}{l:List α}(h:l.length=3):∃a b c,l=[a,b,c]:=by
 match l,h with
 | [a,b,c],_=>exact⟨a,b,c,rfl⟩
section
variable {H:Type} {enc:TypeId×Value->H} {w:World} {base:Nat} {spare:Nat->Bool} {held:Bool}
theorem zhe{P:Program}{t e:TypeId}{fs:Array Field}{fuel:Nat}{c:Value}{x:DataW H×List MemPlace}(ht:P.underlying t=some (.slice e))(he:P.underlying e=some (.struct fs))
 (hone:oneCellFields P fs=true)(hC:P.cellsOf e=fs.size)(hpos:0<fs.size)(h:DataW.trod enc P w base spare held fuel t [c]=some x):
  ∃(a:Option Addr) (len cap:Nat),c=.slice a len cap/\len<=cap/\len<=9223372036854775807/\(len=0 ∨ ∃b off,a=some ⟨b,off,none⟩/\b<w.heap.size/\
   ∀i,i<len->∃(cs:List Value) (n:Nat),cs.length=fs.size/\(∀j,j<fs.size->w.cell? ⟨b,off+i*fs.size+j,none⟩=cs[j]?)/\∀(j:Nat) (f:Field),fs[j]? =some f->∃c y,cs[j]? =some c/\DataW.trod enc P w base spare held n f.type [c]=some y):=by
 rcases open_slice ht h with⟨hc,_⟩|⟨a,len,cap,m,n,D,Pl,hcs,hb,hl,hm,hmm,hx,hi⟩
 ·have hc':c=.slice none 0 0:=by simpa using hc
  exact⟨none,0,0,hc',Za _,Ya,.inl rfl⟩
 ·have hc:c=.slice (some a) len cap:=by simpa using hcs
  refine⟨some a,len,cap,hc,hl,JX,?_⟩
  rcases ZaI len with h0|h0
  ·exact .inl h0
  have hml:len<=m:=by rw[hmm];split<;>omega
  have hget:∀i,i<len->∃(cs:List Value) (n:Nat),cs.length=fs.size/\(∀j,j<fs.size->w.cell? ((a.add (i*fs.size)).add j)=cs[j]?)/\∀(j:Nat) (f:Field),fs[j]? =some f->∃c y,cs[j]? =some c/\DataW.trod enc P w base spare held n f.type [c]=some y:=by
   intro i hil;obtain⟨cs',hc,ht'⟩:=hi i Ya;rw[hC]at hc;obtain⟨_,hcl,hat⟩:=World.cells?_some hc;obtain⟨ys,n',h1,h2,h3,h4⟩:=zeI he hone hC ht';exact⟨cs',n',h1,hat,fun j f hj=>let ⟨c,y,q1,_,q3⟩:=h4 j f hj;⟨c,y,q1,q3⟩⟩
  obtain⟨b,off,spot⟩:=a;obtain⟨cs0,_,hl0,hc0,_⟩:=hget 0 h0;have hc1:=hc0 0 hpos;rw[Zh Ya]at hc1;have hspot:spot=none:=by simpa [Addr.add]using World.cell?_spot hc1
  subst hspot;have hbl:=Zbs w _ hc1
  refine .inr ⟨b,off,rfl,by simpa [Addr.add]using hbl,fun i hil=>?_⟩
  obtain⟨cs,n,q1,q2,q3⟩:=hget i hil;exact⟨cs,n,q1,fun j hj=>by have:=q2 j hj;simpa [Zaq]using this,q3⟩
theorem zjk{P:Program}{t e:TypeId}{fuel:Nat}{c:Value}{x:DataW H×List MemPlace}(ht:P.underlying t=some (.slice e))(he:P.underlying e=some (.int .u32))(hc:P.cellsOf e=1)
 (h:DataW.trod enc P w base spare held fuel t [c]=some x):∃a l k,c=.slice a (List.length l) k/\l.length<=k/\zw w a l:=by
 rcases open_ints ht he hc h with⟨hcs,hx⟩|⟨x',l,k,zs,hcs,_,hl,hm,hz,hx,hcell,hwz⟩
 ·have hc':c=.slice none 0 0:=by simpa using hcs
  exact⟨none,[],0,hc',Za _,zw.nil _ _⟩
 ·have hlz:l<=zs.length:=by rw[hz];split<;>omega
  have hlen:((zs.take l).map Int.toNat).length=l:=Yi;have hc':c=.slice (some x') l k:=by simpa using hcs
  have hrange:∀n∈zs,0<=n/\n<=4294967295:=by
   intro n hn;have:=hwz n hn;exact IA
  refine⟨some x',(zs.take l).map Int.toNat,k,by rw[hlen];exact hc',Ya,⟨?_,JX,?_⟩⟩
  ·intro d hd;obtain⟨n,hn,rfl⟩:=ZP.1 hd;have:=hrange n (ZT hn);omega
  ·rcases ZaI l with h0|h0
   ·left;subst h0;simp
   ·obtain⟨b,off,spot⟩:=x';have hc0:=hcell 0 Ya;have hspot:spot=none:=by simpa [Addr.add]using World.cell?_spot hc0
    subst hspot;have hb:=Zbs w _ hc0
    refine .inr ⟨b,off,rfl,by simpa [Addr.add]using hb,?_⟩
    intro j d hj;have hj':j<l:=by have:=(Zr.1 hj).1;omega
    have h1:=hcell j Ya;rw[ZN,ZaZ hj',Zh Ya]at hj;simp at hj;have hr:=hrange _ (Z1 (l:=zs) (n:=j) Ya);have e:zs.getD j 0=(d:Int):=by
     rw[Zd,Zh Ya];simp only[Option.getD_some];omega
    rw[e]at h1
    simpa [Zaq]using h1
theorem Tryz.rat_parts:∃f0 f1 f2:Field,Tryz.prog.underlying 51=some (.struct #[f0,f1,f2])/\oneCellFields Tryz.prog #[f0,f1,f2]=true/\f0.type=4/\f1.type=49/\f2.type=49:=
 ⟨_,_,_,Tryz.underlying51,Yb,rfl,rfl,rfl⟩
theorem Tryz.cellsU32:Tryz.prog.cellsOf 109=1:=Yb
theorem Tryz.cellsInt1:Tryz.prog.cellsOf 3=1:=Yb
theorem zgv{fuel:Nat}{c:Value}{x:DataW H×List MemPlace}(h:DataW.trod enc Tryz.prog w base spare held fuel 35 [c]=some x):∃a L k,c=.slice a (List.length L) k/\zm w a L:=by
 obtain⟨f0,f1,f2,hs,hone,t0,t1,t2⟩:=Tryz.rat_parts;obtain⟨a,len,cap,rfl,h1,h2,h3⟩:=zhe Tryz.underlying35 hs hone Yb Yc h
 rcases h3 with rfl|⟨b,off,rfl,hb,hrow⟩
 ·exact⟨a,[],cap,rfl,⟨Yc,.inl rfl⟩⟩
 ·obtain⟨L,hL,hx⟩:=zgY (α:=zaf) (Pr:=fun j x=>∃(an ad:Option Addr) (cn cd:Nat),w.cell? ⟨b,off+j*3,none⟩=some (.bool x.neg)/\w.cell? ⟨b,off+j*3+1,none⟩=some (.slice an x.num.length cn)/\w.cell? ⟨b,off+j*3+2,none⟩=some (.slice ad x.den.length cd)/\
   RatV w (.agg #[.bool x.neg,.slice an x.num.length cn,.slice ad x.den.length cd]) x) len (fun i hi=>by
    obtain⟨cs,n,hcl,hc,hf⟩:=hrow i hi;obtain⟨v0,v1,v2,rfl⟩:=zse hcl;obtain⟨c0,y0,e0,g0⟩:=hf 0 f0 rfl;obtain⟨c1,y1,e1,g1⟩:=hf 1 f1 rfl;obtain⟨c2,y2,e2,g2⟩:=hf 2 f2 rfl;simp only[Zf,Zc,ZaG]at e0 e1 e2;subst e0 e1 e2;rw[t0]at g0;rw[t1]at g1;rw[t2]at g2;obtain⟨neg,hn,_⟩:=DataW.trod_bool Tryz.underlying4 g0;simp only[List.cons.injEq,Z0]at hn;subst hn;obtain⟨an,num,kn,rfl,hkn,un⟩:=zjk Tryz.underlying49 Tryz.underlying109 Tryz.cellsU32 g1;obtain⟨ad,den,kd,rfl,hkd,ud⟩:=zjk Tryz.underlying49 Tryz.underlying109 Tryz.cellsU32 g2;exact⟨⟨neg,num,den⟩,an,ad,kn,kd,hc 0 Yc,hc 1 Yc,hc 2 Yc,⟨an,ad,kn,kd,rfl,hkn,hkd,un,ud⟩⟩)
  exact⟨_,L,cap,by rw[hL],⟨by rw[hL];exact h2,.inr ⟨b,off,rfl,hb,hx⟩⟩⟩
end
theorem zsB{α:Type}{l:List α}(h:l.length=9):∃a b c d e f g i j,l=[a,b,c,d,e,f,g,i,j]:=by
 match l,h with
 | [a,b,c,d,e,f,g,i,j],_=>exact⟨a,b,c,d,e,f,g,i,j,rfl⟩
theorem zsT{α:Type}{l:List α}(h:l.length=2):∃a b,l=[a,b]:=by
 match l,h with
 | [a,b],_=>exact⟨a,b,rfl⟩
section
variable {H:Type} {enc:TypeId×Value->H} {w:World} {base:Nat} {spare:Nat->Bool} {held:Bool}
theorem Tryz.layL_parts:∃f0 f1 f2 f3 f4 f5 f6 f7 f8:Field,Tryz.prog.underlying 44=some (.struct #[f0,f1,f2,f3,f4,f5,f6,f7,f8])/\oneCellFields Tryz.prog #[f0,f1,f2,f3,f4,f5,f6,f7,f8]=true/\
  f0.type=3/\f1.type=3/\f2.type=3/\f3.type=3/\f4.type=3/\f5.type=3/\f6.type=3/\f7.type=35/\f8.type=35:=
 ⟨_,_,_,_,_,_,_,_,_,Tryz.underlying44,Yb,rfl,rfl,rfl,rfl,rfl,rfl,rfl,rfl,rfl⟩
theorem Tryz.model_parts:∃f0 f1:Field,Tryz.prog.underlying 25=some (.struct #[f0,f1])/\oneCellFields Tryz.prog #[f0,f1]=true/\f0.type=22/\f1.type=23:=
 ⟨_,_,Tryz.underlying25,Yb,rfl,rfl⟩
def zQ(x:zac):Prop:=(I64 x.kind/\I64 x.frm/\I64 x.out/\I64 x.kh)/\I64 x.kw/\I64 x.stride/\I64 x.pad
theorem zgd{cs:List Value}{n:Nat}{f0 f1 f2 f3 f4 f5 f6 f7 f8:Field}(hcl:cs.length=9)
 (t0:f0.type=3)(t1:f1.type=3)(t2:f2.type=3)(t3:f3.type=3)(t4:f4.type=3)(t5:f5.type=3)(t6:f6.type=3)(t7:f7.type=35)(t8:f8.type=35)
 (hf:∀(j:Nat) (f:Field),#[f0,f1,f2,f3,f4,f5,f6,f7,f8][j]? =some f->∃c y,cs[j]? =some c/\DataW.trod enc Tryz.prog w base spare held n f.type [c]=some y):
  ∃(x:zac) (a1 a2:Option Addr) (c1 c2:Nat),cs=[.int .i64 x.kind,.int .i64 x.frm,.int .i64 x.out,.int .i64 x.kh,.int .i64 x.kw,.int .i64 x.stride,.int .i64 x.pad,.slice a1 x.weights.length c1,.slice a2 x.bias.length c2]/\zm w a1 x.weights/\zm w a2 x.bias/\zQ x:=by
 obtain⟨v0,v1,v2,v3,v4,v5,v6,v7,v8,rfl⟩:=zsB hcl;obtain⟨c0,y0,e0,g0⟩:=hf 0 f0 rfl;obtain⟨c1,y1,e1,g1⟩:=hf 1 f1 rfl;obtain⟨c2,y2,e2,g2⟩:=hf 2 f2 rfl;obtain⟨c3,y3,e3,g3⟩:=hf 3 f3 rfl;obtain⟨c4,y4,e4,g4⟩:=hf 4 f4 rfl;obtain⟨c5,y5,e5,g5⟩:=hf 5 f5 rfl;obtain⟨c6,y6,e6,g6⟩:=hf 6 f6 rfl;obtain⟨c7,y7,e7,g7⟩:=hf 7 f7 rfl;obtain⟨c8,y8,e8,g8⟩:=hf 8 f8 rfl;simp only[Zf,Zc,ZaG]at e0 e1 e2 e3 e4 e5 e6 e7 e8;subst e0 e1 e2 e3 e4 e5 e6 e7 e8;rw[t0]at g0;rw[t1]at g1;rw[t2]at g2;rw[t3]at g3;rw[t4]at g4;rw[t5]at g5;rw[t6]at g6;rw[t7]at g7;rw[t8]at g8;obtain⟨n0,rfl,k0⟩:=zdB Tryz.underlying3 g0;obtain⟨n1,rfl,k1⟩:=zdB Tryz.underlying3 g1;obtain⟨n2,rfl,k2⟩:=zdB Tryz.underlying3 g2;obtain⟨n3,rfl,k3⟩:=zdB Tryz.underlying3 g3;obtain⟨n4,rfl,k4⟩:=zdB Tryz.underlying3 g4;obtain⟨n5,rfl,k5⟩:=zdB Tryz.underlying3 g5;obtain⟨n6,rfl,k6⟩:=zdB Tryz.underlying3 g6;obtain⟨a7,l7,m7,rfl,i7⟩:=zgv g7;obtain⟨a8,l8,m8,rfl,i8⟩:=zgv g8;exact⟨⟨n0,n1,n2,n3,n4,n5,n6,l7,l8⟩,a7,a8,m7,m8,rfl,i7,i8,⟨⟨k0,k1,k2,k3⟩,k4,k5,k6⟩⟩
theorem zkx{fuel:Nat}{c:Value}{x:DataW H×List MemPlace}(h:DataW.trod enc Tryz.prog w base spare held fuel 23 [c]=some x):∃a L k,c=.slice a (List.length L) k/\L.length<=k/\zaK w a L/\∀o∈L,zQ o:=by
 obtain⟨f0,f1,f2,f3,f4,f5,f6,f7,f8,hs,hone,t0,t1,t2,t3,t4,t5,t6,t7,t8⟩:=Tryz.layL_parts;obtain⟨a,len,cap,rfl,h1,h2,h3⟩:=zhe Tryz.underlying23 hs hone Yb Yc h
 rcases h3 with rfl|⟨b,off,rfl,hb,hrow⟩
 ·exact⟨a,[],cap,rfl,Zs _,zaK.nil _ _,Yc⟩
 ·obtain⟨L,hL,hx⟩:=zgY (α:=zac) (Pr:=fun j x=>zkH w b (off+j*9) x/\zQ x) len (fun i hi=>by
    obtain⟨cs,n,hcl,hc,hf⟩:=hrow i hi;obtain⟨x,a1,a2,c1,c2,rfl,r1,r2,rg⟩:=zgd hcl t0 t1 t2 t3 t4 t5 t6 t7 t8 hf;exact⟨x,⟨a1,a2,c1,c2,⟨hc 0 Yc,hc 1 Yc,hc 2 Yc,hc 3 Yc,hc 4 Yc,hc 5 Yc,hc 6 Yc,hc 7 Yc,hc 8 Yc⟩,r1,r2⟩,rg⟩)
  refine⟨_,L,cap,by rw[hL],by rw[hL];exact h1,⟨by rw[hL];exact h2,.inr ⟨b,off,rfl,hb,fun j x hj=>(hx j x hj).1⟩⟩,fun o ho=>?_⟩
  obtain⟨j,hj⟩:=ZaX ho;exact(hx j o hj).2
end
