/-
  Contracts: EvC, EvP, EvQ, EvH, EvJ, EvK, EvD, EvE, EvF, EvG, EvL, EvR, EvU, EvT, EvV, EvW, EvZ, PvB, EvX, EvY, PvC, PvD, LwA.
-/
import Derived.Test.YtfgmmghmmfmdgaaGreatO15
import Derived.Test.YtfgmmghmmfmdgaaGreatO16
import Derived.Test.YtfgmmghmmfmdgaaGreatO0
set_option linter.all false
set_option maxRecDepth 100000
set_option maxHeartbeats 3200000
namespace Go.Proofs.YtfgmmghmmfmdgaaGreat
open Go.RowKit
open Go.Lib (hid)
variable {P:Prop} {n k lo j b g B c D B' C base T KH KW ln:Nat} {i fr ot kh kw st pd:Int} {w W wr:World} {l ws x bs y:List Rat} {a1 a2 a ax aS af:Option Addr} {v:Value} {L:List zaf} {q p:Rat} {win S:List (List Int)} {input sh:List Int} {F:Nat->Prop}
theorem IZ(h:P:=by
 intro ops;simp only[Zo,Zw,zbR]
 refine⟨?v0,?v1,?v2,?v3,?v4,?v5,?v6,?v7,?v8,?v9,?v10,?v11,?v12,?_,?_,?v15,?_,?_,trivial⟩
 all_goals (intro g W hR hL;have hB:=hR.base;obtain⟨f0,t0⟩:=HCe.out W hR.be;simp only[zdt,Region.binds,ZB,Zn,Zx,GR,Zf,Zc]at hL;simp[ze,Act.put])
 case v0|v1|v2|v3|v4|v5|v6|v7|v8|v9|v10|v11|v12|v15=>
  exact Ut
 ·exact Tk
 ·exact TG
 ·exact Of
 ·exact UY
):P:=h
theorem Of(h:P:=by
 try simp only[hL]
 clear hL;have HR:=hid hR;clear hR;have HCt:=hid (HSum.out W HR.out.be);exact Um
):P:=h
theorem O0(h:P:=by
 go_roundw
 case rel=>exact⟨k+1,b3,k3,hlt,rfl,Yg,HOut3.out⟩
 case measure=>simp[intOf];omega
):P:=h
theorem O3(h:P:=by have h1:(k+1)*T<=C*T:=Zl _ hlt;have h2:=HCT.out;exact TO):P:=h
theorem U3(h:P:=by
 have HRow1:=hid (zj4.alloc r2 r3 r4 r5 51);have hal:=blA W3 (zbb s1 rn rcn rd rcd 51);have HOw2:=hid ((HOut.out.below HBe.out).below hal);obtain⟨z0,z1,z2,_,zlt⟩:=rbx;clear r4 r5 hal
 go_wp2_with (at_builtin;refine zcQ rfl (.tmp 56) (.tmp 58) 35 rfl Wx.heap.size Tryz.underlying35 Tryz.infoRat (.slice b0 k k0) k _ HLn.out rfl HOw2.out.own _ s1 HRow1.out rfl Ya HOw2.out.bl.size ?_;intro b3 k3 w3 hown hk3 hg hbe;have HOut3:=hid (show zde Wx w3 (.slice b3 (k+1) k3) (((List.range (k+1)).map FF).map zc)from⟨YG,HOw2.out.bl.trans hbe⟩);clear hown hg hbe)
 exact O0
):P:=h
theorem US(h:P:=by
 have h:=hx;have hv:zk s=true:=by
  cases hvs:zk s with
  | true=>rfl
  | false=>rw[zt,hvs,Zg Yd]at h;omega
 rw[zt,Zm hv,hs']at h;simp only[za7,Int.one_mul]at h;exact Int.ofNat_inj.1 VX
):P:=h
theorem UY(h:P:=by generalize g 16=y16 at hL⊢;obtain⟨H16,_⟩:=hL;obtain⟨K16,HR⟩:=hd2 H16 hR;clear hR H16;obtain⟨bn',bd',dn',dd',rfl,g2,g3,g4,g5⟩:=K16.out.ex;obtain⟨HRow,HBa⟩:=hd2 (zj4.alloc g2 g3 g4 g5 51) ((Ze W.heap.size W).alloc (Za _) (zbb s1 bn' dn' bd' dd' 51));clear g4 g5 K16;go_wp2;exact⟨_,rfl,⟨Zi HR.out.base HBa.out.size,HR.out.be.trans (HBa.out.mono HR.out.base)⟩,HBa.out,HRow.out⟩):P:=h
theorem Te(h:P:=by
 ·obtain rfl:k=x.length:=Ya;go_wp2;have hNP:zcF w (((List.range x.length).map FF).map zc) (.returned (.slice b0 x.length k0)) wr:=HOut.out.ret Yc Ya HB1.out;exact Zp (v:=.slice b0 x.length k0) Y0 rfl hNP
):P:=h
theorem Tk(h:P:=by
 try simp only[hL]
 clear hL;have HR:=hid hR;clear hR;go_wp2;exact⟨_,rfl,HR.out,Ze _ _,HM1.out⟩
):P:=h
theorem Tn(h:P:=by go_wp2;exact⟨_,rfl,⟨Zi HR.out.base HBa.out.size,HR.out.be.trans (HBa.out.mono HR.out.base)⟩,HBa.out,HRow.out⟩):P:=h
theorem Ty(h:P:=by rw[<- Zbb,<- hp0];exact IntWalk.i64_in _ Ya):P:=h
theorem T0(h:P:=by
 clear hown hg hbe;go_wp2;go_roundw
 case rel=>exact⟨i+1,m+1,b3,k3,hi,Jk,rfl,Yg,HOut3.out⟩
 case measure=>simp[intOf];omega
):P:=h
theorem T8(h:P:=by
 ·obtain rfl:i=T:=Ya;go_wp2;go_roundw
  case rel=>exact⟨k+1,m,b0,k0,hlt,XJ,rfl,Yg,Kx⟩
  case measure=>simp[intOf];omega
):P:=h
theorem TG(h:P:=by
 try simp only[hL]
 clear hL;have HR:=hid hR;clear hR;go_wp2;have e9:p1-p0=n:=JG
 first|exact⟨_,rfl,HR.out,Ze _ _,Ui⟩|exact⟨HR.out,Ze _ _,Ui⟩|trace_state
):P:=h
theorem TO(h:P:=by have h3:=HM.out;rw[Zac]at h1;omega):P:=h
theorem Ei(h:P:=by subst e;unfold Oper.wp execOp;simp only[ho,resolve,invoke,builtin,Sem.run_bind,Sem.run_pure,Result.andThen_ok,List.map_toArray,Zbf,List.map_nil,hs,hx,hr];exact hK _ _ (h b k w' hO hk r3 hbe r4)):P:=h
theorem Er(h:P:=by have e:((k:Int)+1)*(n:Int)=(p1:Int):=JF;unfold Hid;rw[e,IntWalk.wrap64_in _ Ya]):P:=h
theorem E7(h:P:=by have hL2:=HLr.out.below hb HLr.out.lt;exact⟨hL2.f0,((HOut.out.bl.trans (hb.mono HOut.out.bl.size)).cell (p:=⟨bt,ot'+i,none⟩) hbt).trans tc0⟩):P:=h
theorem EI(h:P:=by
 intro k
 induction k with
 | zero=>simp
 | succ k ih=>rw[Zab,List.flatMap_append,ZE,ih,Zac];simp
):P:=h
theorem EN(h:P:=by rw[Zz hj]at hs;rw[Zz (by rw[<- h.len];exact hj)]at hy;exact h.size j s y hs hy):P:=h
theorem IC(h:P:=by exact Zp (v:=.slice b0 m k0) Y0 rfl hNP):P:=h
theorem Y0(h:P:=by simp[results,Tryz.results68,go_sem]):P:=h
def zbq(n:Nat):List Int:=(List.range n).map fun k:Nat=>(k:Int)
theorem zbJ(n:Nat):(zbq n).length=n:=by simp[zbq]
theorem zl3(n:Nat):zbq (n+1)=zbq n++[(n:Int)]:=by simp[zbq,Zab]
theorem zk9(h:k<n):(zbq n).getD k 0=(k:Int):=by
 rw[Zd,zbq,ZN,Zam h];rfl
theorem znB(h:i∈zbq n):0<=i/\i<n:=by
 simp only[zbq,ZP,Z5]at h;obtain⟨k,h1,rfl⟩:=h;omega
def zas{α:Type}(l:List α)(lo n:Nat):List α:=(l.drop lo).take n
theorem zbK{α:Type}{l:List α}(h:lo+n<=l.length):(zas l lo n).length=n:=by simp[zas];omega
theorem zjw{α β:Type}(f:α->β)(l:List α)(lo n:Nat):zas (l.map f) lo n=(zas l lo n).map f:=by simp[zas,List.map_drop,List.map_take]
theorem zck{α:Type}{l:List α}{x:α}(h:x∈zas l lo n):x∈l:=ZX (ZT h)
theorem zln{α:Type}{l:List α}(hj:j<n):(zas l lo n)[j]? =l[lo+j]? :=by
 unfold zas;rw[List.getElem?_take,Zm hj,List.getElem?_drop]
def zeL(bs ws x:List Rat)(r:Nat):Rat:=zqD (bs.getD r 0) (zas ws (r*x.length) x.length) 0 (zbq x.length) x
def zdg(R:Nat)(bs ws x:List Rat):List Rat:=(List.range R).map (zeL bs ws x)
def zda(bs ws:List Rat)(n:Nat)(win:List (List Int))(x:List Rat)(o i:Nat):Rat:=zqD (bs.getD o 0) (zas ws (o*n) n) 0 (win.getD i []) x
def zkl(O:Nat)(bs ws:List Rat)(n:Nat)(win:List (List Int))(x:List Rat):List Rat:=(List.range O).flatMap fun o=>(List.range win.length).map (zda bs ws n win x o)
def zbp(f:List Rat->Rat)(n:Nat)(win:List (List Int))(x:List Rat)(ch i:Nat):Rat:=f (zau (zas (win.getD i []) (ch*n) n) x)
def zfs(f:List Rat->Rat)(C n:Nat)(win:List (List Int))(x:List Rat):List Rat:=(List.range C).flatMap fun ch=>(List.range win.length).map (zbp f n win x ch)
def zmc(x:List Rat):List Rat:=x.map fun q=>zc7 q 0
def zna(x y:List Rat):List Rat:=(List.range x.length).map fun k=>x.getD k 0+y.getD k 0
theorem zm.sub{off:Nat}{l:List zaf}(h:zm w (some ⟨b,off,none⟩) l)(hn:lo+n<=l.length):zm w (some ⟨b,off+lo*3,none⟩) (zas l lo n):=by
 have hlen:(zas l lo n).length=n:=zbK hn
 refine⟨by have:=h.len;omega,?_⟩
 rcases h.row with rfl|⟨b',off',hb,hs,hc⟩
 ·exact .inl (by simp[zas])
 ·cases hb
  refine .inr ⟨b,off+lo*3,rfl,hs,fun j d hj=>?_⟩
  have hj':j<n:=by have:=(Zr.1 hj).1;omega
  rw[zln hj']at hj;have:=hc (lo+j) d hj;rw[ZK,<- Zat]at this;exact this
def zcf(kd fr ot kh kw st pd:Int)(a1:Option Addr)(n1 c1:Nat)(a2:Option Addr)(n2 c2:Nat):Value:=
 .agg #[.int .i64 kd,.int .i64 fr,.int .i64 ot,.int .i64 kh,.int .i64 kw,.int .i64 st,.int .i64 pd,.slice a1 n1 c1,.slice a2 n2 c2]
def zcF(w:World)(L:List zaf)(e:Ending)(w':World):Prop:=∃a c,e=.returned (.slice a L.length c)/\L.length<=c/\zm w' a L/\Below w.heap.size w w'
structure zmD (W:World) (g:Nat) (kd fr ot kh kw st pd:Int) (a1:Option Addr) (n1 c1:Nat) (a2:Option Addr) (n2 c2:Nat):Prop where
 f0:W.cell? ⟨g,0,none⟩=some (.int .i64 kd)
 f2:W.cell? ⟨g,2,none⟩=some (.int .i64 ot)
 f3:W.cell? ⟨g,3,none⟩=some (.int .i64 kh)
 f4:W.cell? ⟨g,4,none⟩=some (.int .i64 kw)
 f5:W.cell? ⟨g,5,none⟩=some (.int .i64 st)
 f6:W.cell? ⟨g,6,none⟩=some (.int .i64 pd)
 f7:W.cell? ⟨g,7,none⟩=some (.slice a1 n1 c1)
 f8:W.cell? ⟨g,8,none⟩=some (.slice a2 n2 c2)
 lt:g<W.heap.size
theorem zmD.below{W':World}{kd:Int}{n1 c1:Nat}{n2 c2:Nat}(h:zmD W g kd fr ot kh kw st pd a1 n1 c1 a2 n2 c2)(hb:Below B W W')(hg:g<B):zmD W' g kd fr ot kh kw st pd a1 n1 c1 a2 n2 c2:=
 ⟨(hb.cell (p:=⟨g,0,none⟩) hg).trans h.f0,(hb.cell (p:=⟨g,2,none⟩) hg).trans h.f2,(hb.cell (p:=⟨g,3,none⟩) hg).trans h.f3,(hb.cell (p:=⟨g,4,none⟩) hg).trans h.f4,(hb.cell (p:=⟨g,5,none⟩) hg).trans h.f5,
  (hb.cell (p:=⟨g,6,none⟩) hg).trans h.f6,(hb.cell (p:=⟨g,7,none⟩) hg).trans h.f7,(hb.cell (p:=⟨g,8,none⟩) hg).trans h.f8,Zb h.lt hb.size⟩
theorem zmD.alloc(W:World)(kd fr ot kh kw st pd:Int)(a1:Option Addr)(n1 c1:Nat)(a2:Option Addr)(n2 c2:Nat)(T:Nat):
  zmD (W.alloc (.cells #[.int .i64 kd,.int .i64 fr,.int .i64 ot,.int .i64 kh,.int .i64 kw,.int .i64 st,.int .i64 pd,.slice a1 n1 c1,.slice a2 n2 c2] T)) W.heap.size kd fr ot kh kw st pd a1 n1 c1 a2 n2 c2:=
 ⟨by rw[World.cell?_alloc_at _ _ _ _ rfl];rfl,by rw[World.cell?_alloc_at _ _ _ _ rfl];rfl,by rw[World.cell?_alloc_at _ _ _ _ rfl];rfl,by rw[World.cell?_alloc_at _ _ _ _ rfl];rfl,by rw[World.cell?_alloc_at _ _ _ _ rfl];rfl,
  by rw[World.cell?_alloc_at _ _ _ _ rfl];rfl,by rw[World.cell?_alloc_at _ _ _ _ rfl];rfl,by rw[World.cell?_alloc_at _ _ _ _ rfl];rfl,Yc⟩
structure zde (W wr:World) (v:Value) (L:List zaf):Prop where
 own:zhm wr W.heap.size v L
 bl:Below W.heap.size W wr
theorem zde.start(W:World):zde W W (.slice none 0 0) []:=⟨zhm.nil _ _,Ze _ _⟩
theorem zde.below{w':World}(h:zde W wr v L)(hb:Below wr.heap.size wr w'):zde W w' v L:=⟨h.own.below hb,h.bl.trans (hb.mono h.bl.size)⟩
theorem zde.ret(h:zde W wr (.slice a n c) L)(hn:L.length=n)(hl:n<=9223372036854775807)(hb:Below w.heap.size w W):zcF w L (.returned (.slice a n c)) wr:=by
 obtain⟨a',c',e,hc⟩:=h.own.form;cases e;exact⟨a,c,rfl,hc,h.own.rats hl,hb.trans (h.bl.mono hb.size)⟩
def zbT(f:Nat->Nat->Rat)(T k i:Nat):List Rat:=((List.range k).flatMap fun o=>(List.range T).map (f o))++(List.range i).map (f k)
theorem zcI(f:Nat->Nat->Rat)(T k i:Nat):((zbT f T k i).map zc).length=k*T+i:=by
 have:∀k,((List.range k).flatMap fun o=>(List.range T).map (f o)).length=k*T:=EI;simp only[zbT,Zv,ZE,this,Zav]
theorem zfM(f:Nat->Nat->Rat)(T k i:Nat):(zbT f T k (i+1)).map zc=(zbT f T k i).map zc++[zc (f k i)]:=by simp[zbT,Zab]
theorem zl1(f:Nat->Nat->Rat)(T k:Nat):zbT f T k T=zbT f T (k+1) 0:=by simp[zbT,Zab]
theorem zhL(O:Nat)(bs ws:List Rat)(n:Nat)(win:List (List Int))(x:List Rat):zkl O bs ws n win x=zbT (zda bs ws n win x) win.length O 0:=by simp[zbT,zkl]
theorem zfJ(g:List Rat->Rat)(C n:Nat)(win:List (List Int))(x:List Rat):zfs g C n win x=zbT (zbp g n win x) win.length C 0:=by simp[zbT,zfs]
theorem zcz:zc 0=⟨false,[],[]⟩:=by simp[zc,zy]
theorem zh8:zD (zc 0) 524285:=by rw[zcz];exact⟨Zs _,Zs _⟩
structure Bd (D B:Nat) (q:Rat):Prop where
 pos:0<D
 ex:∃n:Int,q=mkRat n D/\n.natAbs<=B*D
theorem Bd.zero(h:0<D):Bd D B 0:=⟨h,0,by simp[Rat.zero_mkRat],Yc⟩
theorem Bd.mono(h:Bd D B q)(hb:B<=B'):Bd D B' q:=by
 obtain⟨n,e,hn⟩:=h.ex;exact⟨h.pos,n,e,Zi hn (Zl _ hb)⟩
theorem Bd.bump(h:Bd D B q)(hk:0<k):Bd (D*k) B q:=by
 obtain⟨n,e,hn⟩:=h.ex
 refine⟨Zak h.pos hk,n*k,?_,?_⟩
 ·rw[e,Rat.mkRat_mul_right Ya]
 ·rw[Int.natAbs_mul,Int.natAbs_natCast,<- ZL];exact Zl _ hn
theorem Bd.add(h:Bd D B p)(g:Bd D C q):Bd D (B+C) (p+q):=by
 obtain⟨n,e,hn⟩:=h.ex;obtain⟨m,e',hm⟩:=g.ex;have hD:=h.pos
 refine⟨hD,n+m,?_,?_⟩
 ·rw[e,e',Rat.mkRat_add_mkRat _ _ Ya Ya,<- Int.add_mul,Rat.mkRat_mul_right Ya]
 ·have:=Int.natAbs_add_le n m;rw[ZK];omega
theorem Bd.mul{E:Nat}(h:Bd D B p)(g:Bd E C q):Bd (D*E) (B*C) (p*q):=by
 obtain⟨n,e,hn⟩:=h.ex;obtain⟨m,e',hm⟩:=g.ex
 refine⟨Zak h.pos g.pos,n*m,?_,?_⟩
 ·rw[e,e',Rat.mkRat_mul_mkRat]
 ·rw[Int.natAbs_mul];have:=ZY hn hm;rw[show B*C*(D*E)=B*D*(C*E) by ac_rfl];exact this
theorem Bd.neg(h:Bd D B q):Bd D B (-q):=by
 obtain⟨n,e,hn⟩:=h.ex;exact⟨h.pos,-n,by rw[e,Rat.neg_mkRat],by rw[Int.natAbs_neg];exact hn⟩
theorem Bd.sub(h:Bd D B p)(g:Bd D C q):Bd D (B+C) (p-q):=by
 rw[Rat.sub_eq_add_neg];exact h.add g.neg
theorem Bd.maxQ(h:Bd D B p)(g:Bd D B q):Bd D B (zc7 p q):=by
 unfold Go.Proofs.YtfgmmghmmfmdgaaGreat.zc7
 split<;>assumption
theorem Bd.le(h:Bd D B q)(hk:B*D+D<4294967296^k):zD (zc q) k:=by
 obtain⟨n,e,hn⟩:=h.ex;have hD:=h.pos;have h1:q.num.natAbs<=n.natAbs:=by
  rw[e,Rat.num_mkRat]
  split
  ·simp
  ·rw[Int.natAbs_ediv_of_dvd]
   ·exact Za1 _ _
   ·exact Int.ofNat_dvd_left.2 (Nat.gcd_dvd_right _ _)
 have h2:q.den<=D:=by
  rw[e,Rat.den_mkRat]
  split
  ·omega
  ·exact Za1 _ _
 constructor
 ·exact zaq Ya
 ·show(if q.den=1 then[]else za q.den).length<=k
  split
  ·exact Zs _
  ·exact zaq Ya
def BdL(D B:Nat)(l:List Rat):Prop:=∀q∈l,Bd D B q
theorem BdL.mono(h:BdL D B l)(hb:B<=B'):BdL D B' l:=fun q hq=>(h q hq).mono hb
theorem BdL.bump(h:BdL D B l)(hk:0<k):BdL (D*k) B l:=fun q hq=>(h q hq).bump hk
theorem BdL.at(h:BdL D B l)(hD:0<D)(k:Nat):Bd D B (l.getD k 0):=by
 rw[Zd]
 by_cases hk:k<l.length
 ·rw[Zh hk];exact h _ (Z1 _)
 ·rw[ZaW Ya];exact Bd.zero hD
theorem BdL.part(h:BdL D B l)(lo n:Nat):BdL D B (zas l lo n):=fun q hq=>h q (zck hq)
theorem BdL.nil(D B:Nat):BdL D B []:=fun q hq=>by cases hq
theorem Bd.term{W:Nat}(hw:BdL W C ws)(hx:BdL D B x)(hW:0<W)(hD:0<D)(off:Nat)(ix:List Int)(k:Nat):Bd (W*D) (C*B) (zht ws off ix x k):=by
 unfold zht
 split
 ·exact(hw.at hW _).mul (hx.at hD _)
 ·exact Bd.zero (Zak hW hD)
theorem Bd.psum{W D C B:Nat}{b:Rat}{ws x:List Rat}(hb:Bd W C b)(hw:BdL W C ws)(hx:BdL D B x)(hD:0<D)(off:Nat)(ix:List Int)(k:Nat):Bd (W*D) (C+k*(C*B)) (zgc b ws off ix x k):=by
 induction k with
 | zero=>rw[Zbe,ZU];exact hb.bump hD
 | succ k ih=>
  show Bd _ _ (Go.Proofs.YtfgmmghmmfmdgaaGreat.zgc b ws off ix x k+zht ws off ix x k)
  rw[Zac,<- Zat];exact ih.add (Bd.term hw hx hb.pos hD off ix k)
theorem BdL.vals(h:BdL D B x)(hD:0<D)(ix:List Int):BdL D B (zau ix x):=by
 intro q hq;obtain⟨i,_,rfl⟩:=ZP.1 hq;exact h.at hD _
theorem Bd.pmax{D B:Nat}{l:List Rat}(h:BdL D B l)(hD:0<D)(k:Nat):Bd D B (zhk l k):=by
 induction k with
 | zero=>exact h.at hD 0
 | succ k ih=>exact ih.maxQ (h.at hD _)
theorem Bd.padd{D B:Nat}{l:List Rat}(h:BdL D B l)(hD:0<D)(k:Nat):Bd D ((k+1)*B) (zjI l k):=by
 induction k with
 | zero=>rw[ZR,Zao];exact h.at hD 0
 | succ k ih=>
  show Bd _ _ (Go.Proofs.YtfgmmghmmfmdgaaGreat.zjI l k+l.getD (k+1) 0)
  rw[Zac];exact ih.add (h.at hD _)
theorem Bd.divN(h:Bd D (n*B) q)(hn:0<n):Bd (D*n) B (q/((n:Int):Rat)):=by
 obtain⟨m,e,hm⟩:=h.ex;have hD:=h.pos
 refine⟨Zak hD hn,m,?_,?_⟩
 ·have e1:((n:Int):Rat)≠0:=by
   intro h0;have:(n:Int)=0:=by exact_mod_cast h0
   omega
  have e2:mkRat m D=mkRat m (D*n)*((n:Int):Rat):=by
   rw[show((n:Int):Rat)=mkRat (n:Int) 1 by simp[Zby],Rat.mkRat_mul_mkRat,Zba,Rat.mkRat_mul_right Ya]
  rw[e,e2,Rat.mul_div_cancel e1]
 ·rw[show B*(D*n)=n*B*D by ac_rfl];exact hm
theorem Bd.avg(h:BdL D B l)(hD:0<D)(hl:1<=l.length):Bd (D*l.length) B (zf0 l):=by
 unfold zf0
 refine Bd.divN ?_ hl
 have:=Bd.padd h hD (l.length-1);rw[show l.length-1+1=l.length from Ya]at this;exact this
theorem BdL.dense{W:Nat}(hW:0<W)(hD:0<D)(hb:BdL W C bs)(hw:BdL W C ws)(hx:BdL D B x)(R:Nat):BdL (W*D) (C+x.length*(C*B)) (zdg R bs ws x):=by
 intro q hq;obtain⟨r,_,rfl⟩:=ZP.1 hq;unfold zeL zqD;have:=Bd.psum (hb.at hW r) (hw.part (r*x.length) x.length) hx hD 0 (zbq x.length) (zbq x.length).length;rw[zbJ]at this⊢;exact this
theorem BdL.conv{W:Nat}(hW:0<W)(hD:0<D)(hb:BdL W C bs)(hw:BdL W C ws)(hx:BdL D B x)(hlen:∀ix∈win,ix.length=n)(O:Nat):BdL (W*D) (C+n*(C*B)) (zkl O bs ws n win x):=by
 intro q hq;obtain⟨o,_,hq⟩:=Za3.1 hq;obtain⟨i,hi,rfl⟩:=ZP.1 hq;rw[Z5]at hi;have hm:win.getD i []∈win:=by rw[Zd,Zh hi];exact Z1 _
 unfold zda zqD;have:=Bd.psum (hb.at hW o) (hw.part (o*n) n) hx hD 0 (win.getD i []) (win.getD i []).length;rw[hlen _ hm]at this⊢;exact this
theorem BdL.poolM(hD:0<D)(hx:BdL D B x)(C:Nat):BdL D B (zfs zdV C n win x):=by
 intro q hq;obtain⟨o,_,hq⟩:=Za3.1 hq;obtain⟨i,hi,rfl⟩:=ZP.1 hq;exact Bd.pmax (hx.vals hD _) hD _
theorem BdL.poolA(hD:0<D)(hx:BdL D B x)(hn:1<=n)(hlen:∀ix∈win,ix.length=C*n):BdL (D*n) B (zfs zf0 C n win x):=by
 intro q hq;obtain⟨o,ho,hq⟩:=Za3.1 hq;obtain⟨i,hi,rfl⟩:=ZP.1 hq;rw[Z5]at hi ho;have hm:win.getD i []∈win:=by rw[Zd,Zh hi];exact Z1 _
 have hl:(zau (zas (win.getD i []) (o*n) n) x).length=n:=by
  rw[zg7]
  refine zbK ?_
  rw[hlen _ hm,<- Zac];exact Zl _ ho
 unfold zbp;have:=Bd.avg (hx.vals hD (zas (win.getD i []) (o*n) n)) hD Ya;rw[hl]at this;exact this
theorem BdL.relu(hD:0<D)(hx:BdL D B x):BdL D B (zmc x):=by
 intro q hq;obtain⟨p,hp,rfl⟩:=ZP.1 hq;exact(hx p hp).maxQ (Bd.zero hD)
theorem BdL.plus(hD:0<D)(hx:BdL D B x)(hy:BdL D C y):BdL D (B+C) (zna x y):=by
 intro q hq;obtain⟨k,_,rfl⟩:=ZP.1 hq;exact(hx.at hD k).add (hy.at hD k)
theorem BdL.small{C:Nat}:∀(l:List Rat),(∀q∈l,q.den<=4294967296/\q.num.natAbs<=C)->∃W,0<W/\W<=4294967296^l.length/\BdL W C l
 | [],_=>⟨1,Ya,Yc,BdL.nil _ _⟩
 | q::r,h=>by
  obtain⟨W,h1,h2,h3⟩:=BdL.small r (fun p hp=>h p (by simp[hp]));obtain⟨g1,g2⟩:=h q Yc;have hq:Bd q.den C q:=⟨q.den_pos,q.num,(Rat.mkRat_self q).symm,Zi g2 (ZaE _ q.den_pos)⟩
  refine⟨W*q.den,Zak h1 q.den_pos,?_,?_⟩
  ·rw[ZH,Zas];exact ZY h2 g1
  ·intro p hp
   rcases Za7.1 hp with rfl|hp
   ·rw[ZD];exact hq.bump h1
   ·exact(h3 p hp).bump q.den_pos
theorem Win.mem_one{q:Win}{ix:List Int}(h:ix∈q.all):∃r c,r<q.R/\c<q.Q/\ix=q.one r c:=by
 simp only[Win.all,Win.rowOf,Za3,ZP,Z5]at h;obtain⟨r,hr,c,hc,rfl⟩:=h;exact⟨r,c,hr,hc,rfl⟩
theorem Win.mem_at{q:Win}{r:Nat}(h:i∈q.one r c):∃ch a b,ch<q.C/\a<q.kh/\b<q.kw/\i=q.at r c ch a b:=by
 simp only[Win.one,Win.chan,Win.line,Za3,ZP,Z5]at h;obtain⟨ch,hch,a,ha,b,hb,rfl⟩:=h;exact⟨ch,a,b,hch,ha,hb,rfl⟩
theorem Win.all_one_len'{q:Win}:∀ix∈q.all,ix.length=q.C*(q.kh*q.kw):=by
 intro ix h;obtain⟨r,c,_,_,rfl⟩:=q.mem_one h;exact q.one_len r c
theorem Win.Ok.all_lt{q:Win}(h:q.Ok):∀ix∈q.all,∀i∈ix,i<((q.C*q.H*q.W:Nat):Int):=by
 intro ix hx i hi;obtain⟨r,c,_,_,rfl⟩:=q.mem_one hx;obtain⟨ch,a,b,hch,_,_,rfl⟩:=q.mem_at hi;have:=(h.at_bd (r:=r) (c:=c) (i:=a) (k:=b) hch).2
 simpa using this
theorem Win.Ok.all_nn{q:Win}(h:q.Ok)(hp:q.p=0):∀ix∈q.all,∀i∈ix,0<=i:=by
 intro ix hx i hi;obtain⟨r,c,hr,hc,rfl⟩:=q.mem_one hx;obtain⟨ch,a,b,hch,ha,hb,rfl⟩:=q.mem_at hi;rw[(h.bare hp hr hc (ch:=ch) ha hb).1];have r0:(0:Int)<=(r:Int)*q.s:=Int.mul_nonneg Ya Ya;have c0:(0:Int)<=(c:Int)*q.s:=Int.mul_nonneg Ya Ya;have h0:(0:Int)<=(ch:Int)*q.H:=Int.mul_nonneg Ya Ya;have h1:(0:Int)<=((ch:Int)*q.H+((r:Int)*q.s+a))*q.W:=Int.mul_nonneg Ya Ya;omega
inductive zqK (l:zac) (s:List Int):Prop
 | dense (R:Nat) (hk:l.kind=1) (ho:l.out=(R:Int)) (h1:1<=R) (h2:R<=16384) (hb:l.bias.length=R) (hw:l.weights.length=R*(zt s).toNat)
 | conv (q:Win) (O:Nat) (hk:l.kind=2) (hq:q.Ok) (ht:q.total<=262144) (hs:s=[(q.C:Int),(q.H:Int),(q.W:Int)]) (e1:l.kh=(q.kh:Int)) (e2:l.kw=(q.kw:Int)) (e3:l.stride=(q.s:Int)) (e4:l.pad=(q.p:Int))
   (ho:l.out=(O:Int)) (h1:1<=O) (hb:l.bias.length=O) (hw:l.weights.length=O*(q.C*q.kh*q.kw)) (hwl:zB s l.kh l.kw l.stride l.pad=(q.all,(q.R:Int),(q.Q:Int),0)) (hz:O*(q.R*q.Q)<=16384)
 | pool (q:Win) (hk:l.kind=3∨l.kind=4) (hq:q.Ok) (ht:q.total<=262144) (hs:s=[(q.C:Int),(q.H:Int),(q.W:Int)]) (e1:l.kh=(q.kh:Int)) (e2:l.kw=(q.kw:Int)) (e3:l.stride=(q.s:Int)) (e4:l.pad=0) (hp:q.p=0) (hwl:zB s l.kh l.kw l.stride 0=(q.all,(q.R:Int),(q.Q:Int),0))
   (hz:q.C*(q.R*q.Q)<=16384)
 | keep (hk:l.kind=5∨l.kind=6)
 | add (hk:l.kind=7)
def wq(l:zac):List Rat:=l.weights.map zT
def bq(l:zac):List Rat:=l.bias.map zT
def zgx(l:zac)(s:List Int)(x y:List Rat):List Rat:=
 if l.kind=1 then zdg l.out.toNat (bq l) (wq l) x
 else if l.kind=2 then zkl l.out.toNat (bq l) (wq l) ((s.getD 0 0).toNat*l.kh.toNat*l.kw.toNat) (zB s l.kh l.kw l.stride l.pad).1 x
 else if l.kind=3 then zfs zdV (s.getD 0 0).toNat (l.kh.toNat*l.kw.toNat) (zB s l.kh l.kw l.stride 0).1 x
 else if l.kind=4 then zfs zf0 (s.getD 0 0).toNat (l.kh.toNat*l.kw.toNat) (zB s l.kh l.kw l.stride 0).1 x
 else if l.kind=5 then zmc x
 else if l.kind=7 then zna x y
 else x
theorem zqB{s:List Int}{kh kw st p:Int}(h:(zB s kh kw st p).2.2.2=0):∃q:Win,q.Ok/\q.total<=262144/\s=[(q.C:Int),(q.H:Int),(q.W:Int)]/\kh=q.kh/\kw=q.kw/\st=q.s/\p=q.p/\zB s kh kw st p=(q.all,(q.R:Int),(q.Q:Int),0):=by
 cases h1:zbt s kh kw st p with
 | true=>rw[zc0 h1]at h;simp at h
 | false=>
  cases h2:zaZ s kh kw p with
  | true=>rw[zb8 h1 h2]at h;simp at h
  | false=>
   by_cases h3:262144<(zeO s kh kw st p).total
   ·rw[zdy h1 h2 h3]at h;simp at h
   ·obtain⟨q,hq,hw,e0,e1,e2,e3,e4⟩:=zgg h1 h2;rw[hw]at h3
    refine⟨q,hq,Ya,e0,e1,e2,e3,e4,?_⟩
    rw[zeH h1 h2 (by rw[hw];exact h3),hw]
theorem zp8{s:List Int}(h:zk s=true):∃n:Nat,zt s=n/\1<=n/\n<=16384:=by
 have:=zae h;exact⟨(zt s).toNat,Ya,Ya,Ya⟩
theorem zfZ{a:Nat}(h:zk [(a:Int),(b:Int),(c:Int)]=true):a*(b*c)<=16384:=by
 have h1:=(zae h).2;rw[zt,Zm h]at h1;simp only[za7,Int.one_mul]at h1;have:(((a*b*c:Nat)):Int)<=16384:=VP;rw[<- ZL];omega
theorem zev{l:zac}(h:(zL input S l).2=0):zqK l (zh input S)/\zeC l=true/\
  (l.kind=7-> -1<=l.frm/\l.frm<S.length/\(if 0<=l.frm then S.getD l.frm.toNat []else input)=zh input S):=by
 rcases zaW input S l with⟨h1,_,_⟩|⟨hc,⟨h1,_,_⟩|⟨_,_,hr,hv⟩⟩
 ·omega
 ·omega
 ·simp only[Zu]at hc;obtain⟨⟨_,_,hl⟩,_⟩:=hc;unfold zai at hl;rw[Zu]at hl;obtain⟨hl,hn⟩:=hl;unfold zcT at hl;unfold za9 at hr hv
  by_cases k1:l.kind=1
  ·rw[Zm k1]at hl hr hv;simp only[zhx,zjJ,Zu,ZC]at hl hr;obtain⟨⟨o1,o2⟩,⟨b1,b2,b3,b4⟩,_⟩:=hl
   refine⟨.dense l.out.toNat k1 Ya Ya Ya Ya ?_,hn,fun h=>Ya⟩
   have e:l.out=(l.out.toNat:Int):=Ya
   by_cases hs:0<=zt (zh input S)
   ·have e2:zt (zh input S)=((zt (zh input S)).toNat:Int):=Ya;rw[e,e2]at hr;have:((l.weights.length:Nat):Int)=((l.out.toNat*(zt (zh input S)).toNat:Nat):Int):=by rw[hr];simp
    exact Int.ofNat_inj.1 this
   ·exfalso
    have:l.out*zt (zh input S)<0:=Int.mul_neg_of_pos_of_neg Ya Ya;omega
  rw[Zg k1]at hl hr hv
  by_cases k2:l.kind=2
  ·rw[Zm k2]at hl hr hv;simp only[zhx,zjJ,zdo,Zu,ZC]at hl hr;obtain⟨⟨o1,o2⟩,_,_,_,_,⟨b1,_⟩,_⟩:=hl;obtain⟨hw0,hwe⟩:=hr;obtain⟨q,hq,ht,e0,e1,e2,e3,e4,hwl⟩:=zqB hw0;unfold zay at hv;rw[hwl]at hv;have eo:l.out=(l.out.toNat:Int):=Ya;rw[eo]at hv
   refine⟨.conv q l.out.toNat k2 hq ht e0 e1 e2 e3 e4 eo Ya Ya ?_ hwl (zfZ hv),hn,fun h=>Ya⟩
   rw[e0,e1,e2,eo]at hwe;have:((l.weights.length:Nat):Int)=((l.out.toNat*(q.C*q.kh*q.kw):Nat):Int):=by
    rw[hwe];simp only[List.getD_cons_zero,Zbb,Int.mul_assoc]
   omega
  rw[Zg k2]at hl hr hv
  by_cases k3:l.kind=3∨l.kind=4
  ·rw[Zm k3]at hl hr hv;simp only[zdo,Zu,ZC]at hl hr;obtain⟨_,⟨_,_,hp⟩,_⟩:=hl;obtain⟨q,hq,ht,e0,e1,e2,e3,e4,hwl⟩:=zqB hr;unfold zay at hv;rw[hwl]at hv;rw[e0]at hv;exact⟨.pool q k3 hq ht e0 e1 e2 e3 hp Ya (by rw[hp]at hwl;exact hwl) (zfZ hv),hn,fun h=>Ya⟩
  rw[Zg k3]at hl
  by_cases k5:l.kind=5∨l.kind=6
  ·exact⟨.keep k5,hn,fun h=>Ya⟩
  rw[Zg k5]at hl
  by_cases k7:l.kind=7
  ·rw[Zm k7]at hl;simp only[Zu,ZC]at hl;rw[Zg k3,Zg Ya,Zm k7]at hr;exact⟨.add k7,hn,fun _=>⟨hl.1,hl.2.1,by simpa [zb9]using hr⟩⟩
  ·rw[Zg k7]at hl;cases hl
theorem zhR(f:Nat->Nat->Rat)(T k i:Nat):(zbT f T k i).length=k*T+i:=by have:=zcI f T k i;rwa [Zv]at this
theorem zif{input:List Int}{S:List (List Int)}{l:zac}{x y:List Rat}(h:(zL input S l).2=0)(hx:(x.length:Int)=zt (zh input S)):((zgx l (zh input S) x y).length:Int)=zt (zL input S l).1:=by
 have hv:=zcP h
 rcases zaW input S l with⟨h1,_,_⟩|⟨_,⟨h1,_,_⟩|⟨_,h2,_,_⟩⟩
 ·omega
 ·omega
 by_cases hk:5<=l.kind
 ·rw[zj2 h hk,<- hx];unfold zgx;rw[Zg Ya,Zg Ya,Zg Ya,Zg Ya]
  split
  ·simp[zmc]
  ·split
   ·simp[zna]
   ·rfl
 ·obtain⟨hf,_,_⟩:=zev h;rw[h2]at hv⊢;unfold za9 at hv⊢
  cases hf with
  | dense R hk ho h1 h2 hb hw=>
   rw[Zm hk]at hv⊢;unfold zgx;rw[Zm hk,zt,Zm hv];simp only[za7,Int.one_mul,zdg,Zv,Zav];omega
  | conv q O hk hq ht hs e1 e2 e3 e4 ho h1 hb hw hwl hz=>
   rw[Zg Ya,Zm hk]at hv⊢;unfold zay at hv⊢;rw[hwl]at hv⊢;unfold zgx;rw[Zg Ya,Zm hk,hwl,zt,Zm hv,zhL];rw[zhR,q.all_len,ho];simp only[za7,Int.one_mul];simp[Int.mul_assoc]
  | pool q hk hq ht hs e1 e2 e3 e4 hp hwl hz=>
   rw[Zg Ya,Zg Ya,Zm hk]at hv⊢;unfold zay at hv⊢;rw[e4,hwl]at hv⊢;have hC:(zh input S).getD 0 0=(q.C:Int):=VV;have key:∀f:List Rat->Rat,((zfs f ((zh input S).getD 0 0).toNat (l.kh.toNat*l.kw.toNat) q.all x).length:Int)=zt [(zh input S).getD 0 0,(q.R:Int),(q.Q:Int)]:=by
    intro f;rw[zt,Zm hv,zfJ];rw[zhR,q.all_len,hC];simp only[za7,Int.one_mul];simp[Int.mul_assoc]
   unfold zgx;rw[Zg Ya,Zg Ya,hwl]
   rcases hk with hk|hk
   ·rw[Zm hk];exact key _
   ·rw[Zg Ya,Zm hk];exact key _
  | keep hk=>omega
  | add hk=>omega
def zbj(x:List Rat)(Y:List (List Rat)):List Rat:=Y.getLast?.getD x
def zbE(x:List Rat)(Y:List (List Rat))(f:Int):List Rat:=if 0<=f then Y.getD f.toNat []else x
def zaN(input:List Int)(x:List Rat):List (List Int)->List (List Rat)->List zac->List (List Rat)
 | _,Y,[]=>Y
 | S,Y,l::r=>zaN input x (S++[(zL input S l).1]) (Y++[zgx l (zh input S) (zbj x Y) (zbE x Y l.frm)]) r
def zdM(m:zec)(x:List Rat):List (List Rat):=zaN m.input x [] [] m.layers
def WQ:Nat:=4294967296^240*4294967296^240
theorem zcD:1<=WQ:=Zak (Nat.one_le_pow _ _ Ya) (Nat.one_le_pow _ _ Ya)
theorem zo4(M a n:Nat)(hM:1<=M)(hn:n<=a+a):M^n<=M^a*M^a:=by rw[<- Z9];exact Zt hM hn
theorem zih{W:Nat}(h:W<=4294967296^n)(hn:n<=480):W<=WQ:=Zi h (zo4 4294967296 240 n Ya hn)
theorem zpm(M a b c:Nat)(h:a+b=c):M^a*M^b=M^c:=by rw[<- Z9,h]
theorem zqi:∃p:Nat,p=480/\WQ=4294967296^p:=⟨480,rfl,zpm 4294967296 240 240 480 rfl⟩
structure zbN (l:zac):Prop where
 num:∀q∈wq l++bq l,q.den<=4294967296/\q.num.natAbs<=18446744073709551616
 len:(wq l++bq l).length<=480
theorem zgP(hn:n<=262144)(hB:1<=B):18446744073709551616+n*(18446744073709551616*B)<=9671406556917033397649408*B:=by
 have:n*(18446744073709551616*B)<=262144*(18446744073709551616*B):=Zl _ hn;omega
theorem zrp{l:zac}{s:List Int}{x y:List Rat}{D B:Nat}(hf:zqK l s)(hx:(x.length:Int)=zt s)(hxl:x.length<=16384)(hxB:BdL D B x)(hyB:BdL D B y)(hD:0<D)(hB:1<=B)(hs:zbN l):
  ∃k,0<k/\k<=WQ/\BdL (D*k) (9671406556917033397649408*B) (zgx l s x y):=by
 have pp:(1:Nat)<=WQ:=zcD;have stay:∀{z:List Rat},BdL D B z->BdL (D*1) (9671406556917033397649408*B) z:=fun h=>by rw[Zba];exact h.mono Ya
 unfold zgx
 cases hf with
 | dense R hk ho h1 h2 hb hw=>
  obtain⟨W,w1,w2,w3⟩:=BdL.small _ hs.num;rw[Zm hk]
  refine⟨W,w1,zih w2 hs.len,?_⟩
  rw[ZD D W];exact(BdL.dense w1 hD (fun q hq=>w3 q (List.mem_append_right _ hq)) (fun q hq=>w3 q (ZaQ _ hq)) hxB _).mono (zgP Ya hB)
 | conv q O hk hq ht hs' e1 e2 e3 e4 ho h1 hb hw hwl hz=>
  obtain⟨W,w1,w2,w3⟩:=BdL.small _ hs.num;rw[Zg Ya,Zm hk,hwl]
  refine⟨W,w1,zih w2 hs.len,?_⟩
  rw[ZD D W];have hC:s.getD 0 0=(q.C:Int):=Xa;have hn:(s.getD 0 0).toNat*l.kh.toNat*l.kw.toNat=q.C*(q.kh*q.kw):=by rw[hC,e1,e2,ZL];rfl
  rw[hn];have hb:=Win.len_bd hq ht;rw[q.one_len]at hb;exact(BdL.conv w1 hD (fun q hq=>w3 q (List.mem_append_right _ hq)) (fun q hq=>w3 q (ZaQ _ hq)) hxB q.all_one_len' _).mono (zgP hb.2.1 hB)
 | pool q hk hq ht hs' e1 e2 e3 e4 hp hwl hz=>
  rw[Zg Ya,Zg Ya,hwl];have hC:s.getD 0 0=(q.C:Int):=Xa;have hn:l.kh.toNat*l.kw.toNat=q.kh*q.kw:=Jj
  rcases hk with hk|hk
  ·rw[Zm hk];exact⟨1,Ya,pp,stay (BdL.poolM hD hxB _)⟩
  ·rw[Zg Ya,Zm hk,hn,hC];have hb:=Win.len_bd hq ht;rw[q.one_len]at hb;have hpos:1<=q.kh*q.kw:=Zak hq.kh1 hq.kw1
   refine⟨q.kh*q.kw,hpos,?_,(BdL.poolA hD hxB hpos q.all_one_len').mono Ya⟩
   have h1:q.kh*q.kw<=262144:=Zi (Zad _ hq.c1) hb.2.1;exact zih (n:=1) (Zi h1 Ya) Ya
 | keep hk=>
  rw[Zg Ya,Zg Ya,Zg Ya,Zg Ya]
  rcases hk with hk|hk
  ·rw[Zm hk];exact⟨1,Ya,pp,stay (BdL.relu hD hxB)⟩
  ·rw[Zg Ya,Zg Ya];exact⟨1,Ya,pp,stay hxB⟩
 | add hk=>
  rw[Zg Ya,Zg Ya,Zg Ya,Zg Ya,Zg Ya,Zm hk]
  refine⟨1,Ya,pp,?_⟩
  rw[Zba];exact(BdL.plus hD hxB hyB).mono Ya
structure TrI (input:List Int) (x:List Rat) (S:List (List Int)) (Y:List (List Rat)) (D B:Nat):Prop where
 len:S.length=Y.length
 size:∀(j:Nat) (s:List Int) (y:List Rat),S[j]? =some s->Y[j]? =some y->(y.length:Int)=zt s
 x0:(x.length:Int)=zt input
 hD:0<D
 hB:1<=B
 bx:BdL D B x
 bY:∀y∈Y,BdL D B y
theorem TrI.curr{input:List Int}{x:List Rat}{S:List (List Int)}{Y:List (List Rat)}{D B:Nat}(h:TrI input x S Y D B):((zbj x Y).length:Int)=zt (zh input S)/\BdL D B (zbj x Y):=by
 unfold zbj zh;rw[Zah,Zah,h.len]
 cases hy:Y[Y.length-1]? with
 | none=>
  have hs:S[Y.length-1]? =none:=by
   rw[List.getElem?_eq_none_iff]at hy⊢;have:=h.len;omega
  rw[hs];exact⟨h.x0,h.bx⟩
 | some y=>
  have hlt:=(Zr.1 hy).1;have hls:Y.length-1<S.length:=by rw[h.len];exact hlt
  have hs:S[Y.length-1]? =some (S[Y.length-1]'hls):=Zh hls;rw[hs];exact⟨h.size _ _ _ hs hy,h.bY y (Zq hy)⟩
theorem TrI.frm{input:List Int}{x:List Rat}{S:List (List Int)}{Y:List (List Rat)}{D B:Nat}(h:TrI input x S Y D B)(f:Int):BdL D B (zbE x Y f):=by
 unfold zbE
 split
 ·rw[Zd]
  cases hy:Y[f.toNat]? with
  | none=>exact BdL.nil _ _
  | some y=>exact h.bY y (Zq hy)
 ·exact h.bx
theorem TrI.step{Y:List (List Rat)}{l:zac}(h:TrI input x S Y D B)(hl:(zL input S l).2=0)(hs:zbN l)(hv:zk (zh input S)=true):
  ∃k,0<k/\k<=WQ/\TrI input x (S++[(zL input S l).1]) (Y++[zgx l (zh input S) (zbj x Y) (zbE x Y l.frm)]) (D*k) (9671406556917033397649408*B):=by
 obtain⟨hc,hcb⟩:=h.curr;have hsz:=(zae hv).2;obtain⟨k,k1,k2,k3⟩:=zrp (zev hl).1 hc Ya hcb (h.frm l.frm) h.hD h.hB hs
 refine⟨k,k1,k2,by simp[h.len],?_,h.x0,Zak h.hD k1,Ua,(h.bx.bump k1).mono Ua,?_⟩
 ·intro j s y hs hy
  by_cases hj:j<S.length
  ·exact EN
  ·have hlt:=(Zr.1 hs).1;simp only[ZE,ZH,Zax]at hlt;obtain rfl:j=S.length:=Ya;have e1:s=(zL input S l).1:=by simpa using hs.symm
   rw[h.len]at hy;have e2:y=zgx l (zh input S) (zbj x Y) (zbE x Y l.frm):=by simpa using hy.symm
   rw[e1,e2];exact zif hl hc
 ·intro y hy
  rcases Zar.1 hy with hy|hy
  ·exact((h.bY y hy).bump k1).mono Ua
  ·simp only[List.mem_singleton]at hy;rw[hy];exact k3
theorem zkw(k:Nat)(bs ws x:List Rat):(zdg (k+1) bs ws x).map zc=(zdg k bs ws x).map zc++[zc (zeL bs ws x k)]:=by simp[zdg,Zab]
theorem zhA(k:Nat)(bs ws x:List Rat):((zdg k bs ws x).map zc).length=k:=by simp[zdg]
theorem zoG{xs:List Value}(h:w.ownsRow base T 1 v n xs):∃a c,v=.slice a n c:=by
 rcases h.2 with⟨rfl,hn⟩|⟨g,cap,cur,rfl,hb,hg,hnc,hcm,hcs,htake⟩
 ·exact⟨none,0,by rw[hn]⟩
 ·exact⟨_,cap,rfl⟩
theorem zps{R:Nat}(c1 c2 cx nS cS nf cf:Nat)
 (hW:zm w a1 (ws.map zc))(hB:zm w a2 (bs.map zc))(hX:zm w ax (x.map zc))(h1:1<=x.length)(hRb:R<=bs.length)(hwl:R*x.length<=ws.length)(hc1:ws.length<=c1)(hR2:R<=1000000)(hx2:x.length<=1000000)
 (hw1:∀q∈ws,zD (zc q) 1048575)(hx1:∀q∈x,zD (zc q) 1048575)(hp:∀p∈ws,∀q∈x,zD (zc (p*q)) 524286)
 (hs:∀r,r<R->∀k,k<=x.length->zD (zc (zgc (bs.getD r 0) (zas ws (r*x.length) x.length) 0 (zbq x.length) x k)) 524286):
  Calls Tryz.prog 68 #[zcf 1 fr R kh kw st pd a1 ws.length c1 a2 bs.length c2,.slice aS nS cS,.slice ax x.length cx,.slice af nf cf] w (zcF w ((zdg R bs ws x).map zc)):=by
 have hwl':=hW.len;have hbl':=hB.len;have hxl':=hX.len;simp only[Zv]at hwl' hbl' hxl';obtain⟨HW,HBi,HX,Hw1,Hx1,Hp⟩:=hd6 hW hB hX hw1 hx1 hp;obtain⟨Hs,Hwl,HLB,HB1⟩:=hd4 hs hwl (zmD.alloc w 1 fr R kh kw st pd a1 ws.length c1 a2 bs.length c2 44) ((Ze w.heap.size w).alloc (Za _) (.cells #[.int .i64 1,.int .i64 fr,.int .i64 R,.int .i64 kh,.int .i64 kw,.int .i64 st,.int .i64 pd,.slice a1 ws.length c1,.slice a2 bs.length c2] 44));clear hW hB hX hw1 hx1 hp hs hwl;unfold zcf
 go_enter Tryz.func68,Tryz.ntmps68
 go_upto_region 1 with fail
 generalize w.alloc (.cells #[.int .i64 1,.int .i64 fr,.int .i64 R,.int .i64 kh,.int .i64 kw,.int .i64 st,.int .i64 pd,.slice a1 ws.length c1,.slice a2 bs.length c2] 44)=W1 at *;have f0:=HLB.out.f0;go_wp2;clear f0
 go_loopw [10,11] (fun v i Wx=>∃(k:Nat) (a:Option Addr) (c:Nat),k<=x.length/\v=.slice a k c/\i=.int .i64 (k:Int)/\Hid (Wx.ownsRow W1.heap.size 3 1 (.slice a k c) k ((zbq k).map (Value.int .i64)))/\Hid (Below W1.heap.size W1 Wx)) (fun _ i _=>x.length-(intOf i).toNat)
 case atStart=>exact⟨0,none,0,Zs _,rfl,rfl,Zaw _ _ _ _,Ze _ _⟩
 case round=>
  obtain⟨k,aI,cI,hk,rfl,rfl,HO,HBr⟩:=hrel
  by_cases hlt:k<x.length
  ·go_wp2_with (at_builtin;refine zao rfl (.tmp 68) (.tmp 70) 22 rfl W1.heap.size 3 (.int .i64 0) 8 Tryz.underlying22 Tryz.info3 rfl _ k _ rfl HO.out _ rfl rfl Ya Yf HBr.out.size ?_;intro v' w' hown hg hn;obtain⟨av,cv,rfl⟩:=zoG hown;have HOwn:=hid hown;have HBg:=hid (HBr.out.grown hg HBr.out.size (fun j hj=>(HO.out.lt j hj).1));clear hown hg hn)
   go_roundw
   case rel=>exact⟨k+1,av,cv,hlt,rfl,Yg,by rw[zl3,Zay];exact HOwn.out,HBg.out⟩
   case measure=>simp[intOf];omega
  ·obtain rfl:k=x.length:=Ya;obtain⟨a',c',hv,hI⟩:=zah.own (l:=zbq x.length) (by rw[zbJ];exact HO.out) (fun i hi=>by have:=znB hi;omega) (by rw[zbJ];omega);rw[zbJ]at hv;obtain⟨rfl,rfl⟩:aI=a'/\cI=c':=by cases hv;exact⟨rfl,rfl⟩
   obtain⟨HI,HLx⟩:=hd2 (hI.below (Ze _ _)) (HLB.out.below HBr.out HLB.out.lt);have HBx:=htr HB1 HBr.out;clear hI hv HO HLB HB1 HBr
   rename World=>Wx
   have f2:=HLx.out.f2;go_wp2;clear f2
   go_loopw [9,12] (fun v i wr=>∃(k:Nat) (a:Option Addr) (c:Nat),k<=R/\v=.slice a k c/\i=.int .i64 (k:Int)/\Hid (zde Wx wr (.slice a k c) ((zdg k bs ws x).map zc))) (fun _ i _=>R-(intOf i).toNat)
   case atStart=>exact⟨0,none,0,Zs _,rfl,rfl,zde.start Wx⟩
   case round=>
    obtain⟨k,b0,k0,hk,rfl,rfl,HOut⟩:=hrel;have HLr:=hid (HLx.out.below HOut.out.bl HLx.out.lt);have f2:=HLr.out.f2
    by_cases hlt:k<R
    ·obtain⟨p0,hp0⟩:∃p0,p0=k*x.length:=⟨_,rfl⟩
     obtain⟨p1,hp1⟩:∃p1,p1=(k+1)*x.length:=⟨_,rfl⟩
     have hmul:p1<=ws.length:=XC;have hp01:p1=p0+x.length:=Xf;obtain⟨bb,ob,u,un,ud,ucn,ucd,rfl,hbb,hu,uc0,uc1,uc2,huv⟩:=HBi.out.pick (k:=k) Yl;obtain⟨bw,ow,_,_,_,_,_,rfl,hbw,_,_,_,_,_⟩:=HW.out.pick (k:=p0) Yl;obtain⟨hu1,hu2⟩:=za5 hu;obtain⟨s1,hs1⟩:∃s1,s1=zc (zeL bs ws x k):=⟨_,rfl⟩
     have hsub:=HW.out.sub (lo:=p0) (n:=x.length) Yl;rw[zjw]at hsub;have hbr:Below w.heap.size w wr:=HBx.out.trans (HOut.out.bl.mono HBx.out.size);have HSum:Hid (∀W,Below wr.heap.size wr W->Calls Tryz.prog 101 #[.agg #[.bool u.neg,.slice un u.num.length ucn,.slice ud u.den.length ucd],.slice (some ⟨bw,ow+p0*3,none⟩) x.length (c1-p0),.slice aI x.length cI,.slice ax x.length cx] W (zcj W s1)):=fun W hb=>by
      have hbw2:=hbr.trans (hb.mono hbr.size);have q1:RatV W (.agg #[.bool u.neg,.slice un u.num.length ucn,.slice ud u.den.length ucd]) (zc (bs.getD k 0)):=by rw[<- hu2];exact huv.below hbw2
      have q2:zm W (some ⟨bw,ow+p0*3,none⟩) ((zas ws p0 x.length).map zc):=hsub.below hbw2;have q3:zah W _ aI (zbq x.length):=HI.out.below (HOut.out.bl.trans (hb.mono HOut.out.bl.size));have q4:zm W ax (x.map zc):=HX.out.below hbw2;have q5:(zbq x.length).length<=(zas ws p0 x.length).length:=by rw[zbJ,zbK Ya];exact Za _
      have q6:∀j n:Nat,j<(zbq x.length).length->(zbq x.length).getD j 0=(n:Int)->n<x.length:=fun j n hj hn=>by rw[zbJ]at hj;rw[zk9 hj]at hn;omega
      have q7:∀q∈zas ws p0 x.length,zD (zc q) 1048575:=fun q hq=>Hw1.out q (zck hq)
      have q8:∀p∈zas ws p0 x.length,∀q∈x,zD (zc (p*q)) 524286:=fun p hp q hq=>Hp.out p (zck hp) q hq
      have q9:∀j,j<=(zbq x.length).length->zD (zc (zgc (bs.getD k 0) (zas ws p0 x.length) 0 (zbq x.length) x j)) 524286:=fun j hj=>by rw[zbJ]at hj;rw[hp0];exact Hs.out k hlt j hj
      have h:=zqM (c1-p0) cI cx q1 q2 q3 q4 q5 q6 q7 Hx1.out q8 q9;rw[zbJ,zbK Ya]at h;rw[hs1];unfold zeL;rw[<- hp0];exact h
     have HCe:Hid (∀W,Below wr.heap.size wr W->W.cell? ⟨w.heap.size,7,none⟩=some (.slice (some ⟨bw,ow,none⟩) ws.length c1)/\W.cell? ⟨w.heap.size,8,none⟩=some (.slice (some ⟨bb,ob,none⟩) bs.length c2)/\
       W.cell? ⟨bb,ob+k*3,none⟩=some (.bool u.neg)/\W.cell? ⟨bb,ob+k*3+1,none⟩=some (.slice un u.num.length ucn)/\W.cell? ⟨bb,ob+k*3+2,none⟩=some (.slice ud u.den.length ucd)):=fun W hb=>by
      have hbw2:=hbr.trans (hb.mono hbr.size);have hL2:=HLr.out.below hb HLr.out.lt;exact⟨hL2.f7,hL2.f8,(hbw2.cell hbb).trans uc0,(hbw2.cell hbb).trans uc1,(hbw2.cell hbb).trans uc2⟩
     have HStep:Hid _:=zkw k bs ws x;rw[<- hs1]at HStep;have HLn:=hid (zhA k bs ws x);have hkb:k<bs.length:=Ya;have m0:IntKind.i64.wrap ((k:Int)*(x.length:Int))=(p0:Int):=Ty;have HM1:Hid (Value.int .i64 (wrap64 (((k:Int)+1)*(x.length:Int)))=.int .i64 (p1:Int)):=by
      have e:((k:Int)+1)*(x.length:Int)=(p1:Int):=JF;unfold Hid;rw[e,IntWalk.wrap64_in _ Ya]
     have HP01:=hid hp01;have hp1p0:p0<=p1:=Ya;have hp0w:p0<ws.length:=Ya;clear hu hu1 hu2 hs1 hsub hbr uc0 uc1 uc2 huv hp0 hp1 hp01
     go_upto_region 21 with fail
     clear f2
     refine zj 22 Yb Yb Yb Yb Yd (zbZ wr.heap.size wr) (fun w w'=>Below w.heap.size w w') (GR [.val (.slice b0 k k0),.val (.pointer (some ⟨w.heap.size,8,none⟩)),.val (.slice (some ⟨bb,ob,none⟩) bs.length c2),.val (.int .i64 (k:Int)),.val (.pointer (some ⟨bb,ob+k*3,none⟩)),.val (.agg #[.bool u.neg,.slice un u.num.length ucn,.slice ud u.den.length ucd]),.val (.pointer (some ⟨w.heap.size,7,none⟩)),.val (.slice (some ⟨bw,ow,none⟩) ws.length c1),.val (.int .i64 (k:Int)),.val (.slice ax x.length cx),.val (.int .i64 (x.length:Int)),.val (.int .i64 (p0:Int)),.val (.int .i64 (k:Int)),.val (.int .i64 ((k:Int)+1)),.val (.slice ax x.length cx),.val (.int .i64 (x.length:Int)),.val (.int .i64 (p1:Int)),.val (.slice (some ⟨bw,ow+p0*3,none⟩) x.length (c1-p0)),.val (.slice aI x.length cI),.val (.slice ax x.length cx),.rat s1,.row s1]) (fun i v w w' h hb=>zcY h hb) (zbZ.start (Za _)) ?_ ?_
     ·intro ops;simp only[Zo,Zw,zbR]
      refine⟨?v0,?v1,?v2,?v3,?v4,?v5,?v6,?v7,?v8,?v9,?v10,?v11,?v12,?v13,?v14,?v15,?_,?_,?v18,?v19,?_,?_,trivial⟩
      all_goals (intro g W hR hL;have hB:=hR.base;obtain⟨f7,f8,u0,u1,u2⟩:=HCe.out W hR.be;simp only[zdt,Region.binds,ZB,Zn,Zx,GR,Zf,Zc]at hL;simp[ze,Act.put])
      case v0|v1|v2|v3|v4|v5|v6|v7|v8|v9|v10|v11|v12|v13|v14|v15|v18|v19=>
       exact Ut
      ·exact Tk
      ·try simp only[hL]
       clear hL;have HR:=hid hR;clear hR;go_wp2;exact⟨_,rfl,HR.out,Ze _ _,by rw[show p1-p0=x.length from JG];rfl⟩
      ·exact Of
      ·generalize g 20=y20 at hL⊢;obtain⟨H20,_⟩:=hL;obtain⟨K20,HR⟩:=hd2 H20 hR;clear hR H20;obtain⟨bn',bd',dn',dd',rfl,g2,g3,g4,g5⟩:=K20.out.ex;obtain⟨HRow,HBa⟩:=hd2 (zj4.alloc g2 g3 g4 g5 51) ((Ze W.heap.size W).alloc (Za _) (zbb s1 bn' dn' bd' dd' 51));clear g4 g5 K20;exact Tn
     ·intro ops g W hR hL;have hB:=hR.base;have J0:=hL.1.1.1.1.1.1.1.1.1.1.1.1.1.1.1.1.1.1.1.1.1.2;have J21:=hL.2;simp only[GR,Zf,Zc]at J0 J21;obtain⟨f7,f8,u0,u1,u2⟩:=HCe.out W hR.be;clear hL;simp only[Zo,Zw,ZG,ZO];simp[ze,Act.put];generalize g 0=y0 at J0⊢;obtain rfl:=J0;generalize g 21=y21 at J21⊢;have HR:=hid hR;clear hR;obtain⟨HO,HJ⟩:=hd2 (HOut.out.below HR.out.be) J21;clear J21
      go_wp2_with (at_builtin;refine zcQ rfl (.tmp 78) (.tmp 99) 35 rfl Wx.heap.size Tryz.underlying35 Tryz.infoRat (.slice b0 k k0) k _ HLn.out rfl HO.out.own y21 s1 HJ.out rfl Ya HO.out.bl.size ?_;intro b3 k3 w3 hown hk3 hg hbe)
      have HOut3:=hid (show zde Wx w3 (.slice b3 (k+1) k3) ((zdg (k+1) bs ws x).map zc)from⟨YG,HO.out.bl.trans hbe⟩);clear hown hg hbe;go_wp2;exact O0
    ·obtain rfl:k=R:=Ya;go_wp2;have hNP:zcF w ((zdg k bs ws x).map zc) (.returned (.slice b0 k k0)) wr:=HOut.out.ret (zhA k bs ws x) Ya HBx.out;exact Zp (v:=.slice b0 k k0) Y0 rfl hNP
theorem zrf{O ck:Nat}(c1 c2 cx cS nf cf:Nat)
 (hW:zm w a1 (ws.map zc))(hB:zm w a2 (bs.map zc))(hX:zm w ax (x.map zc))(hS:zah w F aS sh)(hC:sh[0]? =some (C:Int))(hck:ck=C*KH)(hn:n=ck*KW)(hck1:ck<=1000000)(hn1:1<=n)(hn2:n<=1000000)
 (hwin:(zB sh KH KW st pd).1=win)(hT:T=win.length)(hT2:T<=1000000)(hlen:∀ix∈win,ix.length=n)(hix:∀ix∈win,∀i∈ix,i<x.length)
 (hOb:O<=bs.length)(hwl:O*n<=ws.length)(hc1:ws.length<=c1)(hO2:O<=1000000)(hOT:O*T<=1000000)
 (hw1:∀q∈ws,zD (zc q) 1048575)(hx1:∀q∈x,zD (zc q) 1048575)(hp:∀p∈ws,∀q∈x,zD (zc (p*q)) 524286)
 (hs:∀o,o<O->∀ix∈win,∀k,k<=n->zD (zc (zgc (bs.getD o 0) (zas ws (o*n) n) 0 ix x k)) 524286):
  Calls Tryz.prog 68 #[zcf 2 fr O KH KW st pd a1 ws.length c1 a2 bs.length c2,.slice aS sh.length cS,.slice ax x.length cx,.slice af nf cf] w (zcF w ((zkl O bs ws n win x).map zc)):=by
 have hwl':=hW.len;have hbl':=hB.len;have hxl':=hX.len;simp only[Zv]at hwl' hbl' hxl';obtain⟨HW,HBi,HX,Hw1,Hx1,Hp⟩:=hd6 hW hB hX hw1 hx1 hp;obtain⟨Hs,Hwl,HIx,HLen,HOT,HLB⟩:=hd6 hs hwl hix hlen hOT (zmD.alloc w 2 fr O KH KW st pd a1 ws.length c1 a2 bs.length c2 44);have hB1:=((Ze w.heap.size w).alloc (Za _) (.cells #[.int .i64 2,.int .i64 fr,.int .i64 O,.int .i64 KH,.int .i64 KW,.int .i64 st,.int .i64 pd,.slice a1 ws.length c1,.slice a2 bs.length c2] 44))
 have hsl:0<sh.length:=(Zr.1 hC).1;obtain⟨HWn,HB1⟩:=hd2 (zs4 cS KH KW st pd (hS.below hB1)) hB1;obtain⟨bS,oS,d0,rfl,sc,hd0,_,hbS,_,_,_⟩:=hS.pick2 hsl;rw[hC]at hd0;cases hd0;have m0:IntKind.i64.wrap ((C:Int)*(KH:Int))=(ck:Int):=by rw[<- Zbb,<- hck];exact IntWalk.i64_in _ Ya
 have m1:IntKind.i64.wrap ((ck:Int)*(KW:Int))=(n:Int):=Yu;obtain⟨HWin,HT⟩:=hd2 hwin hT;have HEnd:Hid ((zkl O bs ws n win x).map zc=(zbT (zda bs ws n win x) T O 0).map zc):=by unfold Hid;rw[zhL,<- hT]
 rw[HEnd.out];clear hW hB hX hS hw1 hx1 hp hs hwl hB1 hC hck hn hwin hix hlen hOT hT HEnd;unfold zcf
 go_enter Tryz.func68,Tryz.ntmps68
 go_upto_region 1 with fail
 generalize w.alloc (.cells #[.int .i64 2,.int .i64 fr,.int .i64 O,.int .i64 KH,.int .i64 KW,.int .i64 st,.int .i64 pd,.slice a1 ws.length c1,.slice a2 bs.length c2] 44)=W1 at *;obtain⟨f0,f2,f3,f4,f5,f6,_,_,_⟩:=HLB.out
 go_wp2_with fail
 refine HWn.out.mono ?_
 rintro e Wx ⟨aw,cw,rfl,hI,hb⟩;rw[HWin.out]at hI⊢;rw[<- HT.out];generalize(zB sh KH KW st pd).2.1=e1 at *;generalize(zB sh KH KW st pd).2.2.1=e2 at *;generalize(zB sh KH KW st pd).2.2.2=e3 at *;obtain⟨HI,HLx⟩:=hd2 hI (HLB.out.below hb HLB.out.lt);have HBx:=htr HB1 hb;have sc:=(HBx.out.cell (p:=⟨bS,oS,none⟩) hbS).trans sc;clear f0 f2 f3 f4 f5 f6 hI hb HLB HB1 HWn;obtain⟨f0,f2,f3,f4,f5,f6,f7,f8,_⟩:=HLx.out;go_wp2
 go_quiet (fail)
 clear f0 f3 f4 f5 f6 f7 f8;go_wp2;have hdn:Below Wx.heap.size Wx (Wx.drewN nq):=below_drewN (Ze _ _) nq;obtain⟨HI,HLx⟩:=hd2 (HI.out.below hdn) (HLx.out.below hdn HLx.out.lt);have HBx:=htr HBx hdn;clear hdn sc f2;generalize Wx.drewN nq=Wy at *
 go_loopw [9,18] (fun v i wr=>∃(k m:Nat) (a:Option Addr) (c:Nat),k<=O/\Hid (m=k*T)/\v=.slice a m c/\i=.int .i64 (k:Int)/\Hid (zde Wy wr (.slice a m c) ((zbT (zda bs ws n win x) T k 0).map zc))) (fun _ i _=>O-(intOf i).toNat)
 case atStart=>exact⟨0,0,none,0,Zs _,XU,rfl,rfl,zde.start Wy⟩
 case round=>
  obtain⟨k,m,b0,k0,hk,HM,rfl,rfl,HOut⟩:=hrel;have f2:=(HLx.out.below HOut.out.bl HLx.out.lt).f2
  by_cases hlt:k<O
  ·go_wp2;clear f2
   go_loopw [9,19] (fun v j wr=>∃(i m:Nat) (a:Option Addr) (c:Nat),i<=T/\Hid (m=k*T+i)/\v=.slice a m c/\j=.int .i64 (i:Int)/\Hid (zde Wy wr (.slice a m c) ((zbT (zda bs ws n win x) T k i).map zc))) (fun _ j _=>T-(intOf j).toNat)
   case atStart=>exact⟨0,m,b0,k0,Zs _,HM.out,rfl,rfl,HOut.out⟩
   case round=>
    clear HM HOut;obtain⟨i,m,b0,k0,hi0,HM,rfl,rfl,HOut⟩:=hrel;have HLr:=hid (HLx.out.below HOut.out.bl HLx.out.lt)
    by_cases hi:i<T
    ·obtain⟨p0,hp0⟩:∃p0,p0=k*n:=⟨_,rfl⟩
     obtain⟨p1,hp1⟩:∃p1,p1=(k+1)*n:=⟨_,rfl⟩
     have hmul:p1<=ws.length:=XC;have hp01:p1=p0+n:=Xf;have hmT:m+1<=1000000:=by
      have h1:(k+1)*T<=O*T:=Zl _ hlt;have h2:=HOT.out;exact TO
     obtain⟨bb,ob,u,un,ud,ucn,ucd,rfl,hbb,hu,uc0,uc1,uc2,huv⟩:=HBi.out.pick (k:=k) Yl;obtain⟨bw,ow,_,_,_,_,_,rfl,hbw,_,_,_,_,_⟩:=HW.out.pick (k:=p0) Yl;obtain⟨bt,ot,l,ai,ci,rfl,tc0,hl,hlc,hIl,hbt,_⟩:=HI.out.pickc (k:=i) YZ;have hmem:=Zq hl;have hln:l.length=n:=HLen.out l hmem;rw[hln]at tc0;obtain⟨hu1,hu2⟩:=za5 hu;obtain⟨s1,hs1⟩:∃s1,s1=zc (zda bs ws n win x k i):=⟨_,rfl⟩
     have hsub:=HW.out.sub (lo:=p0) (n:=n) Yl;rw[zjw]at hsub;have hbr:Below w.heap.size w wr:=HBx.out.trans (HOut.out.bl.mono HBx.out.size);have HSum:Hid (∀W,Below wr.heap.size wr W->Calls Tryz.prog 101 #[.agg #[.bool u.neg,.slice un u.num.length ucn,.slice ud u.den.length ucd],.slice (some ⟨bw,ow+p0*3,none⟩) n (c1-p0),.slice ai n ci,.slice ax x.length cx] W (zcj W s1)):=fun W hb=>by
      have hbw2:=hbr.trans (hb.mono hbr.size);have q1:RatV W (.agg #[.bool u.neg,.slice un u.num.length ucn,.slice ud u.den.length ucd]) (zc (bs.getD k 0)):=by rw[<- hu2];exact huv.below hbw2
      have q2:zm W (some ⟨bw,ow+p0*3,none⟩) ((zas ws p0 n).map zc):=hsub.below hbw2;have q3:zah W _ ai l:=hIl.below (HOut.out.bl.trans (hb.mono HOut.out.bl.size));have q4:zm W ax (x.map zc):=HX.out.below hbw2;have q5:l.length<=(zas ws p0 n).length:=by rw[hln,zbK Ya];exact Za _
      have q6:∀j y:Nat,j<l.length->l.getD j 0=(y:Int)->y<x.length:=fun j y hj hy=>by
       have hm:l.getD j 0∈l:=by rw[Zd,Zh hj];exact Z1 _
       have:=HIx.out l hmem _ hm;omega
      have q7:∀q∈zas ws p0 n,zD (zc q) 1048575:=fun q hq=>Hw1.out q (zck hq)
      have q8:∀p∈zas ws p0 n,∀q∈x,zD (zc (p*q)) 524286:=fun p hp q hq=>Hp.out p (zck hp) q hq
      have q9:∀j,j<=l.length->zD (zc (zgc (bs.getD k 0) (zas ws p0 n) 0 l x j)) 524286:=fun j hj=>by rw[hln]at hj;rw[hp0];exact Hs.out k hlt l hmem j hj
      have h:=zqM (c1-p0) ci cx q1 q2 q3 q4 q5 q6 q7 Hx1.out q8 q9;rw[hln,zbK Ya]at h;have e:win.getD i []=l:=by rw[Zd,hl];rfl
      rw[hs1];unfold zda;rw[<- hp0,e];exact h
     have HCe:Hid (∀W,Below wr.heap.size wr W->W.cell? ⟨w.heap.size,7,none⟩=some (.slice (some ⟨bw,ow,none⟩) ws.length c1)/\W.cell? ⟨w.heap.size,8,none⟩=some (.slice (some ⟨bb,ob,none⟩) bs.length c2)/\
       W.cell? ⟨bb,ob+k*3,none⟩=some (.bool u.neg)/\W.cell? ⟨bb,ob+k*3+1,none⟩=some (.slice un u.num.length ucn)/\W.cell? ⟨bb,ob+k*3+2,none⟩=some (.slice ud u.den.length ucd)/\W.cell? ⟨bt,ot+i,none⟩=some (.slice ai n ci)):=fun W hb=>by
      have hbw2:=hbr.trans (hb.mono hbr.size);have hL2:=HLr.out.below hb HLr.out.lt;exact⟨hL2.f7,hL2.f8,(hbw2.cell hbb).trans uc0,(hbw2.cell hbb).trans uc1,(hbw2.cell hbb).trans uc2,((HOut.out.bl.trans (hb.mono HOut.out.bl.size)).cell (p:=⟨bt,ot+i,none⟩) hbt).trans tc0⟩
     have HStep:Hid _:=zfM (zda bs ws n win x) T k i;rw[<- hs1]at HStep;have HLn:=hid ((zcI (zda bs ws n win x) T k i).trans HM.out.symm);have hkb:k<bs.length:=Ya;have m0:IntKind.i64.wrap ((k:Int)*(n:Int))=(p0:Int):=Ty;have HM1:Hid (Value.int .i64 (wrap64 (((k:Int)+1)*(n:Int)))=.int .i64 (p1:Int)):=Er;have HP01:=hid hp01;have hp1p0:p0<=p1:=Ya;have hp0w:p0<ws.length:=Ya;clear hu hu1 hu2 hs1 hsub hbr uc0 uc1 uc2 huv hp0 hp1 hp01 tc0 hl hmem hln hIl hlc
     go_upto_region 31 with fail
     refine zj 23 Yb Yb Yb Yb Yd (zbZ wr.heap.size wr) (fun w w'=>Below w.heap.size w w') (GR [.val (.slice b0 m k0),.val (.pointer (some ⟨w.heap.size,8,none⟩)),.val (.slice (some ⟨bb,ob,none⟩) bs.length c2),.val (.int .i64 (k:Int)),.val (.pointer (some ⟨bb,ob+k*3,none⟩)),.val (.agg #[.bool u.neg,.slice un u.num.length ucn,.slice ud u.den.length ucd]),.val (.pointer (some ⟨w.heap.size,7,none⟩)),.val (.slice (some ⟨bw,ow,none⟩) ws.length c1),.val (.int .i64 (k:Int)),.val (.int .i64 (n:Int)),.val (.int .i64 (p0:Int)),.val (.int .i64 (k:Int)),.val (.int .i64 ((k:Int)+1)),.val (.int .i64 (n:Int)),.val (.int .i64 (p1:Int)),.val (.slice (some ⟨bw,ow+p0*3,none⟩) n (c1-p0)),.val (.slice (some ⟨bt,ot,none⟩) T cw),.val (.int .i64 (i:Int)),.val (.pointer (some ⟨bt,ot+i,none⟩)),.val (.slice ai n ci),.val (.slice ax x.length cx),.rat s1,.row s1]) (fun i v w w' h hb=>zcY h hb) (zbZ.start (Za _)) ?_ ?_
     ·intro ops;simp only[Zo,Zw,zbR]
      refine⟨?v0,?v1,?v2,?v3,?v4,?v5,?v6,?v7,?v8,?v9,?v10,?v11,?v12,?v13,?_,?_,?v16,?v17,?v18,?v19,?v20,?_,?_,trivial⟩
      all_goals (intro g W hR hL;have hB:=hR.base;obtain⟨f7,f8,u0,u1,u2,t0⟩:=HCe.out W hR.be;simp only[zdt,Region.binds,ZB,Zn,Zx,GR,Zf,Zc]at hL;simp[ze,Act.put])
      case v0|v1|v2|v3|v4|v5|v6|v7|v8|v9|v10|v11|v12|v13|v16|v17|v18|v19|v20=>
       exact Ut
      ·exact Tk
      ·try simp only[hL]
       clear hL;have HR:=hid hR;clear hR;go_wp2;exact⟨_,rfl,HR.out,Ze _ _,by rw[show p1-p0=n from JG];rfl⟩
      ·exact Of
      ·generalize g 21=y21 at hL⊢;obtain⟨H21,_⟩:=hL;obtain⟨K21,HR⟩:=hd2 H21 hR;clear hR H21;obtain⟨bn',bd',dn',dd',rfl,g2,g3,g4,g5⟩:=K21.out.ex;obtain⟨HRow,HBa⟩:=hd2 (zj4.alloc g2 g3 g4 g5 51) ((Ze W.heap.size W).alloc (Za _) (zbb s1 bn' dn' bd' dd' 51));clear g4 g5 K21;exact Tn
     ·intro ops g W hR hL;have hB:=hR.base;have J0:=hL.1.1.1.1.1.1.1.1.1.1.1.1.1.1.1.1.1.1.1.1.1.1.2;have J22:=hL.2;simp only[GR,Zf,Zc]at J0 J22;obtain⟨f7,f8,u0,u1,u2,t0⟩:=HCe.out W hR.be;clear hL;simp only[Zo,Zw,ZG,ZO];simp[ze,Act.put];generalize g 0=y0 at J0⊢;obtain rfl:=J0;generalize g 22=y22 at J22⊢;have HR:=hid hR;clear hR;obtain⟨HO,HJ⟩:=hd2 (HOut.out.below HR.out.be) J22;clear J22
      go_wp2_with (at_builtin;refine zcQ rfl (.tmp 139) (.tmp 161) 35 rfl Wy.heap.size Tryz.underlying35 Tryz.infoRat (.slice b0 m k0) m _ HLn.out rfl HO.out.own y22 s1 HJ.out rfl Ya HO.out.bl.size ?_;intro b3 k3 w3 hown hk3 hg hbe)
      have HOut3:=hid (show zde Wy w3 (.slice b3 (m+1) k3) ((zbT (zda bs ws n win x) T k (i+1)).map zc)from⟨YG,HO.out.bl.trans hbe⟩);exact T0
    exact T8
  ·obtain rfl:k=O:=Ya;go_wp2;have hmb:m<=9223372036854775807:=by have:=HM.out;have:=HOT.out;omega
   have hNP:zcF w ((zbT (zda bs ws n win x) T k 0).map zc) (.returned (.slice b0 m k0)) wr:=HOut.out.ret ((zcI _ _ _ _).trans HM.out.symm) hmb HBx.out;exact IC
theorem zok(n1 c1 n2 c2 cx cS nf cf:Nat)
 (hX:zm w ax (x.map zc))(hS:zah w F aS sh)(hC:sh[0]? =some (C:Int))(hn:n=KH*KW)(hn1:1<=n)(hn2:n<=1000000)(hln:ln=C*n)(hln2:ln<=1000000)
 (hwin:(zB sh KH KW st 0).1=win)(hT:T=win.length)(hT2:T<=1000000)(hlen:∀ix∈win,ix.length=ln)(hix:∀ix∈win,∀i∈ix,0<=i/\i<x.length)(hCT:C*T<=1000000)
 (hx1:∀q∈x,zD (zc q) 524285)(hs:∀ch,ch<C->∀ix∈win,∀k,k<n->zD (zc (zhk (zau (zas ix (ch*n) n) x) k)) 524286):
  Calls Tryz.prog 68 #[zcf 3 fr ot KH KW st pd a1 n1 c1 a2 n2 c2,.slice aS sh.length cS,.slice ax x.length cx,.slice af nf cf] w (zcF w ((zfs zdV C n win x).map zc)):=by
 have hxl':=hX.len;simp only[Zv]at hxl';obtain⟨HX,Hx1,Hs,HIx,HLen,HLnE⟩:=hd6 hX hx1 hs hix hlen hln;obtain⟨HCT,HLB⟩:=hd2 hCT (zmD.alloc w 3 fr ot KH KW st pd a1 n1 c1 a2 n2 c2 44);have hB1:=((Ze w.heap.size w).alloc (Za _) (.cells #[.int .i64 3,.int .i64 fr,.int .i64 ot,.int .i64 KH,.int .i64 KW,.int .i64 st,.int .i64 pd,.slice a1 n1 c1,.slice a2 n2 c2] 44))
 have hsl:0<sh.length:=(Zr.1 hC).1;obtain⟨HWn,HB1⟩:=hd2 (zs4 cS KH KW st 0 (hS.below hB1)) hB1;obtain⟨bS,oS,d0,rfl,sc,hd0,_,hbS,_,_,_⟩:=hS.pick2 hsl;rw[hC]at hd0;cases hd0;have m1:IntKind.i64.wrap ((KH:Int)*(KW:Int))=(n:Int):=Yu;obtain⟨HWin,HT⟩:=hd2 hwin hT;have HEnd:Hid ((zfs zdV C n win x).map zc=(zbT (zbp zdV n win x) T C 0).map zc):=by unfold Hid;rw[zfJ,<- hT]
 rw[HEnd.out];clear hX hS hx1 hs hB1 hC hn hwin hix hlen hln hCT hT HEnd;unfold zcf
 go_enter Tryz.func68,Tryz.ntmps68
 go_upto_region 1 with fail
 generalize w.alloc (.cells #[.int .i64 3,.int .i64 fr,.int .i64 ot,.int .i64 KH,.int .i64 KW,.int .i64 st,.int .i64 pd,.slice a1 n1 c1,.slice a2 n2 c2] 44)=W1 at *;obtain⟨f0,f2,f3,f4,f5,f6,_,_,_⟩:=HLB.out
 go_wp2_with fail
 refine HWn.out.mono ?_
 rintro e Wx ⟨aw,cw,rfl,hI,hb⟩;rw[HWin.out]at hI⊢;rw[<- HT.out];generalize(zB sh KH KW st 0).2.1=e1 at *;generalize(zB sh KH KW st 0).2.2.1=e2 at *;generalize(zB sh KH KW st 0).2.2.2=e3 at *;obtain⟨HI,HLx⟩:=hd2 hI (HLB.out.below hb HLB.out.lt);have HBx:=htr HB1 hb;have HSc:Hid (w.cell? ⟨bS,oS,none⟩=some (.int .i64 (C:Int))):=sc;clear sc f0 f2 f3 f4 f5 f6 hI hb HLB HB1 HWn;obtain⟨f0,f2,f3,f4,f5,f6,f7,f8,_⟩:=HLx.out;go_wp2;clear f0 f2 f3 f4 f5 f6 f7 f8
 go_loopw [9,25] (fun v i wr=>∃(k m:Nat) (a:Option Addr) (c:Nat),k<=C/\Hid (m=k*T)/\v=.slice a m c/\i=.int .i64 (k:Int)/\Hid (zde Wx wr (.slice a m c) ((zbT (zbp zdV n win x) T k 0).map zc))) (fun _ i _=>C-(intOf i).toNat)
 case atStart=>exact⟨0,0,none,0,Zs _,XU,rfl,rfl,zde.start Wx⟩
 case round=>
  obtain⟨k,m,b0,k0,hk,HM,rfl,rfl,HOut⟩:=hrel;have sc:=((HBx.out.trans (HOut.out.bl.mono HBx.out.size)).cell (p:=⟨bS,oS,none⟩) hbS).trans HSc.out
  by_cases hlt:k<C
  ·go_wp2;clear sc
   go_loopw [9,26] (fun v j wr=>∃(i m:Nat) (a:Option Addr) (c:Nat),i<=T/\Hid (m=k*T+i)/\v=.slice a m c/\j=.int .i64 (i:Int)/\Hid (zde Wx wr (.slice a m c) ((zbT (zbp zdV n win x) T k i).map zc))) (fun _ j _=>T-(intOf j).toNat)
   case atStart=>exact⟨0,m,b0,k0,Zs _,HM.out,rfl,rfl,HOut.out⟩
   case round=>
    clear HM HOut;obtain⟨i,m,b0,k0,hi0,HM,rfl,rfl,HOut⟩:=hrel;have HLr:=hid (HLx.out.below HOut.out.bl HLx.out.lt)
    by_cases hi:i<T
    ·obtain⟨p0,hp0⟩:∃p0,p0=k*n:=⟨_,rfl⟩
     obtain⟨p1,hp1⟩:∃p1,p1=(k+1)*n:=⟨_,rfl⟩
     have hmul:p1<=ln:=Ky;have hp01:p1=p0+n:=Xf;have hmT:m+1<=1000000:=O3;obtain⟨bt,ot',l,ai,ci,rfl,tc0,hl,hlc,hIl,hbt,_⟩:=HI.out.pickc (k:=i) YZ;have hmem:=Zq hl;have hlL:l.length=ln:=HLen.out l hmem;rw[hlL]at tc0 hlc;obtain⟨bi,oi,_,rfl,_,_,_,_,_,_,_⟩:=hIl.pick2 (k:=0) Ya;obtain⟨s1,hs1⟩:∃s1,s1=zc (zbp zdV n win x k i):=⟨_,rfl⟩
     have hsub:=(hIl.sub (lo:=p0) (n:=n) Ya).2;have hpl:(zas l p0 n).length=n:=zbK Ya;have hbr:Below w.heap.size w wr:=HBx.out.trans (HOut.out.bl.mono HBx.out.size);have HSum:Hid (∀W,Below wr.heap.size wr W->Calls Tryz.prog 102 #[.int .i64 3,.slice (some ⟨bi,oi+p0,none⟩) n (ci-p0),.slice ax x.length cx] W (zcj W s1)):=fun W hb=>by
      have hbw2:=hbr.trans (hb.mono hbr.size);have q3:zah W _ (some ⟨bi,oi+p0,none⟩) (zas l p0 n):=hsub.below (HOut.out.bl.trans (hb.mono HOut.out.bl.size));have q4:zm W ax (x.map zc):=HX.out.below hbw2;have q5:1<=(zas l p0 n).length:=Ya;have q6:∀i∈zas l p0 n,0<=i/\i<x.length:=fun i hi=>HIx.out l hmem i (zck hi)
      have q9:∀j,j<(zas l p0 n).length->zD (zc (zhk (zau (zas l p0 n) x) j)) 524286:=fun j hj=>by rw[hpl]at hj;rw[hp0];exact Hs.out k hlt l hmem j hj
      have h:=zpp (ci-p0) cx q3 q4 q5 q6 Hx1.out q9;rw[hpl]at h;have e:win.getD i []=l:=by rw[Zd,hl];rfl
      rw[hs1];unfold zbp;rw[<- hp0,e];exact h
     have HCe:Hid (∀W,Below wr.heap.size wr W->W.cell? ⟨w.heap.size,0,none⟩=some (.int .i64 3)/\W.cell? ⟨bt,ot'+i,none⟩=some (.slice (some ⟨bi,oi,none⟩) ln ci)):=fun W hb=>by
      exact E7
     have HStep:Hid _:=zfM (zbp zdV n win x) T k i;rw[<- hs1]at HStep;have HLn:=hid ((zcI (zbp zdV n win x) T k i).trans HM.out.symm);have m0:IntKind.i64.wrap ((k:Int)*(n:Int))=(p0:Int):=Ty;have HM1:Hid (Value.int .i64 (wrap64 (((k:Int)+1)*(n:Int)))=.int .i64 (p1:Int)):=Er;have HP01:=hid hp01;have hp1p0:p0<=p1:=Ya;have hp0w:p0<ln:=Ya;clear hs1 hsub hpl hbr hp0 hp1 hp01 tc0 hl hmem hlL hIl
     go_upto_region 42 with fail
     refine zj 18 Yb Yb Yb Yb Yd (zbZ wr.heap.size wr) (fun w w'=>Below w.heap.size w w') (GR [.val (.slice b0 m k0),.val (.pointer (some ⟨w.heap.size,0,none⟩)),.val (.int .i64 3),.val (.slice (some ⟨bt,ot',none⟩) T cw),.val (.int .i64 (i:Int)),.val (.pointer (some ⟨bt,ot'+i,none⟩)),.val (.slice (some ⟨bi,oi,none⟩) ln ci),.val (.int .i64 (k:Int)),.val (.int .i64 (n:Int)),.val (.int .i64 (p0:Int)),.val (.int .i64 (k:Int)),.val (.int .i64 ((k:Int)+1)),.val (.int .i64 (n:Int)),.val (.int .i64 (p1:Int)),.val (.slice (some ⟨bi,oi+p0,none⟩) n (ci-p0)),.val (.slice ax x.length cx),.rat s1,.row s1]) (fun i v w w' h hb=>zcY h hb) (zbZ.start (Za _)) ?_ ?_
     ·exact IZ
     ·intro ops g W hR hL;have hB:=hR.base;have J0:=hL.1.1.1.1.1.1.1.1.1.1.1.1.1.1.1.1.1.2;have J17:=hL.2;simp only[GR,Zf,Zc]at J0 J17;obtain⟨f0,t0⟩:=HCe.out W hR.be;clear hL;simp only[Zo,Zw,ZG,ZO];simp[ze,Act.put];generalize g 0=y0 at J0⊢;obtain rfl:=J0;generalize g 17=y17 at J17⊢;have HR:=hid hR;clear hR;obtain⟨HO,HJ⟩:=hd2 (HOut.out.below HR.out.be) J17;clear J17
      go_wp2_with (at_builtin;refine zcQ rfl (.tmp 197) (.tmp 214) 35 rfl Wx.heap.size Tryz.underlying35 Tryz.infoRat (.slice b0 m k0) m _ HLn.out rfl HO.out.own y17 s1 HJ.out rfl Ya HO.out.bl.size ?_;intro b3 k3 w3 hown hk3 hg hbe)
      have HOut3:=hid (show zde Wx w3 (.slice b3 (m+1) k3) ((zbT (zbp zdV n win x) T k (i+1)).map zc)from⟨YG,HO.out.bl.trans hbe⟩);exact T0
    exact T8
  ·obtain rfl:k=C:=Ya;go_wp2;have hmb:m<=9223372036854775807:=by have:=HM.out;have:=HCT.out;omega
   have hNP:zcF w ((zbT (zbp zdV n win x) T k 0).map zc) (.returned (.slice b0 m k0)) wr:=HOut.out.ret ((zcI _ _ _ _).trans HM.out.symm) hmb HBx.out;exact IC
theorem zos(n1 c1 n2 c2 cx cS nf cf:Nat)
 (hX:zm w ax (x.map zc))(hS:zah w F aS sh)(hC:sh[0]? =some (C:Int))(hn:n=KH*KW)(hn1:1<=n)(hn2:n<=1000000)(hln:ln=C*n)(hln2:ln<=1000000)
 (hwin:(zB sh KH KW st 0).1=win)(hT:T=win.length)(hT2:T<=1000000)(hlen:∀ix∈win,ix.length=ln)(hix:∀ix∈win,∀i∈ix,0<=i/\i<x.length)(hCT:C*T<=1000000)
 (hx1:∀q∈x,zD (zc q) 524285)(hs:∀ch,ch<C->∀ix∈win,∀k,k<n->zD (zc (zjI (zau (zas ix (ch*n) n) x) k)) 524286):
  Calls Tryz.prog 68 #[zcf 4 fr ot KH KW st pd a1 n1 c1 a2 n2 c2,.slice aS sh.length cS,.slice ax x.length cx,.slice af nf cf] w (zcF w ((zfs zf0 C n win x).map zc)):=by
 have hxl':=hX.len;simp only[Zv]at hxl';obtain⟨HX,Hx1,Hs,HIx,HLen,HLnE⟩:=hd6 hX hx1 hs hix hlen hln;obtain⟨HCT,HLB⟩:=hd2 hCT (zmD.alloc w 4 fr ot KH KW st pd a1 n1 c1 a2 n2 c2 44);have hB1:=((Ze w.heap.size w).alloc (Za _) (.cells #[.int .i64 4,.int .i64 fr,.int .i64 ot,.int .i64 KH,.int .i64 KW,.int .i64 st,.int .i64 pd,.slice a1 n1 c1,.slice a2 n2 c2] 44))
 have hsl:0<sh.length:=(Zr.1 hC).1;obtain⟨HWn,HB1⟩:=hd2 (zs4 cS KH KW st 0 (hS.below hB1)) hB1;obtain⟨bS,oS,d0,rfl,sc,hd0,_,hbS,_,_,_⟩:=hS.pick2 hsl;rw[hC]at hd0;cases hd0;have m1:IntKind.i64.wrap ((KH:Int)*(KW:Int))=(n:Int):=Yu;obtain⟨HWin,HT⟩:=hd2 hwin hT;have HEnd:Hid ((zfs zf0 C n win x).map zc=(zbT (zbp zf0 n win x) T C 0).map zc):=by unfold Hid;rw[zfJ,<- hT]
 rw[HEnd.out];clear hX hS hx1 hs hB1 hC hn hwin hix hlen hln hCT hT HEnd;unfold zcf
 go_enter Tryz.func68,Tryz.ntmps68
 go_upto_region 1 with fail
 generalize w.alloc (.cells #[.int .i64 4,.int .i64 fr,.int .i64 ot,.int .i64 KH,.int .i64 KW,.int .i64 st,.int .i64 pd,.slice a1 n1 c1,.slice a2 n2 c2] 44)=W1 at *;obtain⟨f0,f2,f3,f4,f5,f6,_,_,_⟩:=HLB.out
 go_wp2_with fail
 refine HWn.out.mono ?_
 rintro e Wx ⟨aw,cw,rfl,hI,hb⟩;rw[HWin.out]at hI⊢;rw[<- HT.out];generalize(zB sh KH KW st 0).2.1=e1 at *;generalize(zB sh KH KW st 0).2.2.1=e2 at *;generalize(zB sh KH KW st 0).2.2.2=e3 at *;obtain⟨HI,HLx⟩:=hd2 hI (HLB.out.below hb HLB.out.lt);have HBx:=htr HB1 hb;have HSc:Hid (w.cell? ⟨bS,oS,none⟩=some (.int .i64 (C:Int))):=sc;clear sc f0 f2 f3 f4 f5 f6 hI hb HLB HB1 HWn;obtain⟨f0,f2,f3,f4,f5,f6,f7,f8,_⟩:=HLx.out;go_wp2;clear f0 f2 f3 f4 f5 f6 f7 f8
 go_loopw [9,25] (fun v i wr=>∃(k m:Nat) (a:Option Addr) (c:Nat),k<=C/\Hid (m=k*T)/\v=.slice a m c/\i=.int .i64 (k:Int)/\Hid (zde Wx wr (.slice a m c) ((zbT (zbp zf0 n win x) T k 0).map zc))) (fun _ i _=>C-(intOf i).toNat)
 case atStart=>exact⟨0,0,none,0,Zs _,XU,rfl,rfl,zde.start Wx⟩
 case round=>
  obtain⟨k,m,b0,k0,hk,HM,rfl,rfl,HOut⟩:=hrel;have sc:=((HBx.out.trans (HOut.out.bl.mono HBx.out.size)).cell (p:=⟨bS,oS,none⟩) hbS).trans HSc.out
  by_cases hlt:k<C
  ·go_wp2;clear sc
   go_loopw [9,26] (fun v j wr=>∃(i m:Nat) (a:Option Addr) (c:Nat),i<=T/\Hid (m=k*T+i)/\v=.slice a m c/\j=.int .i64 (i:Int)/\Hid (zde Wx wr (.slice a m c) ((zbT (zbp zf0 n win x) T k i).map zc))) (fun _ j _=>T-(intOf j).toNat)
   case atStart=>exact⟨0,m,b0,k0,Zs _,HM.out,rfl,rfl,HOut.out⟩
   case round=>
    clear HM HOut;obtain⟨i,m,b0,k0,hi0,HM,rfl,rfl,HOut⟩:=hrel;have HLr:=hid (HLx.out.below HOut.out.bl HLx.out.lt)
    by_cases hi:i<T
    ·obtain⟨p0,hp0⟩:∃p0,p0=k*n:=⟨_,rfl⟩
     obtain⟨p1,hp1⟩:∃p1,p1=(k+1)*n:=⟨_,rfl⟩
     have hmul:p1<=ln:=Ky;have hp01:p1=p0+n:=Xf;have hmT:m+1<=1000000:=O3;obtain⟨bt,ot',l,ai,ci,rfl,tc0,hl,hlc,hIl,hbt,_⟩:=HI.out.pickc (k:=i) YZ;have hmem:=Zq hl;have hlL:l.length=ln:=HLen.out l hmem;rw[hlL]at tc0 hlc;obtain⟨bi,oi,_,rfl,_,_,_,_,_,_,_⟩:=hIl.pick2 (k:=0) Ya;obtain⟨s1,hs1⟩:∃s1,s1=zc (zbp zf0 n win x k i):=⟨_,rfl⟩
     have hsub:=(hIl.sub (lo:=p0) (n:=n) Ya).2;have hpl:(zas l p0 n).length=n:=zbK Ya;have hbr:Below w.heap.size w wr:=HBx.out.trans (HOut.out.bl.mono HBx.out.size);have HSum:Hid (∀W,Below wr.heap.size wr W->Calls Tryz.prog 102 #[.int .i64 4,.slice (some ⟨bi,oi+p0,none⟩) n (ci-p0),.slice ax x.length cx] W (zcj W s1)):=fun W hb=>by
      have hbw2:=hbr.trans (hb.mono hbr.size);have q3:zah W _ (some ⟨bi,oi+p0,none⟩) (zas l p0 n):=hsub.below (HOut.out.bl.trans (hb.mono HOut.out.bl.size));have q4:zm W ax (x.map zc):=HX.out.below hbw2;have q5:1<=(zas l p0 n).length:=Ya;have q6:∀i∈zas l p0 n,0<=i/\i<x.length:=fun i hi=>HIx.out l hmem i (zck hi)
      have q9:∀j,j<(zas l p0 n).length->zD (zc (zjI (zau (zas l p0 n) x) j)) 524286:=fun j hj=>by rw[hpl]at hj;rw[hp0];exact Hs.out k hlt l hmem j hj
      have h:=zpt (ci-p0) cx q3 q4 q5 q6 Hx1.out q9;rw[hpl]at h;have e:win.getD i []=l:=by rw[Zd,hl];rfl
      rw[hs1];unfold zbp;rw[<- hp0,e];exact h
     have HCe:Hid (∀W,Below wr.heap.size wr W->W.cell? ⟨w.heap.size,0,none⟩=some (.int .i64 4)/\W.cell? ⟨bt,ot'+i,none⟩=some (.slice (some ⟨bi,oi,none⟩) ln ci)):=fun W hb=>by
      exact E7
     have HStep:Hid _:=zfM (zbp zf0 n win x) T k i;rw[<- hs1]at HStep;have HLn:=hid ((zcI (zbp zf0 n win x) T k i).trans HM.out.symm);have m0:IntKind.i64.wrap ((k:Int)*(n:Int))=(p0:Int):=Ty;have HM1:Hid (Value.int .i64 (wrap64 (((k:Int)+1)*(n:Int)))=.int .i64 (p1:Int)):=Er;have HP01:=hid hp01;have hp1p0:p0<=p1:=Ya;have hp0w:p0<ln:=Ya;clear hs1 hsub hpl hbr hp0 hp1 hp01 tc0 hl hmem hlL hIl
     go_upto_region 42 with fail
     refine zj 18 Yb Yb Yb Yb Yd (zbZ wr.heap.size wr) (fun w w'=>Below w.heap.size w w') (GR [.val (.slice b0 m k0),.val (.pointer (some ⟨w.heap.size,0,none⟩)),.val (.int .i64 4),.val (.slice (some ⟨bt,ot',none⟩) T cw),.val (.int .i64 (i:Int)),.val (.pointer (some ⟨bt,ot'+i,none⟩)),.val (.slice (some ⟨bi,oi,none⟩) ln ci),.val (.int .i64 (k:Int)),.val (.int .i64 (n:Int)),.val (.int .i64 (p0:Int)),.val (.int .i64 (k:Int)),.val (.int .i64 ((k:Int)+1)),.val (.int .i64 (n:Int)),.val (.int .i64 (p1:Int)),.val (.slice (some ⟨bi,oi+p0,none⟩) n (ci-p0)),.val (.slice ax x.length cx),.rat s1,.row s1]) (fun i v w w' h hb=>zcY h hb) (zbZ.start (Za _)) ?_ ?_
     ·exact IZ
     ·intro ops g W hR hL;have hB:=hR.base;have J0:=hL.1.1.1.1.1.1.1.1.1.1.1.1.1.1.1.1.1.2;have J17:=hL.2;simp only[GR,Zf,Zc]at J0 J17;obtain⟨f0,t0⟩:=HCe.out W hR.be;clear hL;simp only[Zo,Zw,ZG,ZO];simp[ze,Act.put];generalize g 0=y0 at J0⊢;obtain rfl:=J0;generalize g 17=y17 at J17⊢;have HR:=hid hR;clear hR;obtain⟨HO,HJ⟩:=hd2 (HOut.out.below HR.out.be) J17;clear J17
      go_wp2_with (at_builtin;refine zcQ rfl (.tmp 197) (.tmp 214) 35 rfl Wx.heap.size Tryz.underlying35 Tryz.infoRat (.slice b0 m k0) m _ HLn.out rfl HO.out.own y17 s1 HJ.out rfl Ya HO.out.bl.size ?_;intro b3 k3 w3 hown hk3 hg hbe)
      have HOut3:=hid (show zde Wx w3 (.slice b3 (m+1) k3) ((zbT (zbp zf0 n win x) T k (i+1)).map zc)from⟨YG,HO.out.bl.trans hbe⟩);exact T0
    exact T8
  ·obtain rfl:k=C:=Ya;go_wp2;have hmb:m<=9223372036854775807:=by have:=HM.out;have:=HCT.out;omega
   have hNP:zcF w ((zbT (zbp zf0 n win x) T k 0).map zc) (.returned (.slice b0 m k0)) wr:=HOut.out.ret ((zcI _ _ _ _).trans HM.out.symm) hmb HBx.out;exact IC
theorem zq9{y:List Rat}(n1 c1 n2 c2 cx nS cS nf cf:Nat)
 (hX:zm w ax (x.map zc))(hx2:x.length<=1000000):
  Calls Tryz.prog 68 #[zcf 6 fr ot kh kw st pd a1 n1 c1 a2 n2 c2,.slice aS nS cS,.slice ax x.length cx,.slice af nf cf] w (zcF w (((List.range x.length).map (fun k=>x.getD k 0)).map zc)):=by
 have hxl':=hX.len;simp only[Zv]at hxl';obtain⟨HX,HLB,HB1⟩:=hd3 hX (zmD.alloc w 6 fr ot kh kw st pd a1 n1 c1 a2 n2 c2 44) ((Ze w.heap.size w).alloc (Za _) (.cells #[.int .i64 6,.int .i64 fr,.int .i64 ot,.int .i64 kh,.int .i64 kw,.int .i64 st,.int .i64 pd,.slice a1 n1 c1,.slice a2 n2 c2] 44));obtain⟨FF,hFF⟩:∃FF:Nat->Rat,FF=(fun k=>x.getD k 0):=⟨_,rfl⟩
 rw[<- hFF];have HFF:=hid hFF;clear hX hFF;unfold zcf
 go_enter Tryz.func68,Tryz.ntmps68
 go_upto_region 1 with fail
 generalize w.alloc (.cells #[.int .i64 6,.int .i64 fr,.int .i64 ot,.int .i64 kh,.int .i64 kw,.int .i64 st,.int .i64 pd,.slice a1 n1 c1,.slice a2 n2 c2] 44)=Wx at *;have f0:=HLB.out.f0;go_wp2;clear f0
 go_loopw [9,27] (fun v i wr=>∃(k:Nat) (a:Option Addr) (c:Nat),k<=x.length/\v=.slice a k c/\i=.int .i64 (k:Int)/\Hid (zde Wx wr (.slice a k c) (((List.range k).map FF).map zc))) (fun _ i _=>x.length-(intOf i).toNat)
 case atStart=>exact⟨0,none,0,Zs _,rfl,rfl,zde.start Wx⟩
 case round=>
  obtain⟨k,b0,k0,hk,rfl,rfl,HOut⟩:=hrel;have HLr:=hid (HLB.out.below HOut.out.bl HLB.out.lt)
  by_cases hlt:k<x.length
  ·have hbr:Below w.heap.size w wr:=HB1.out.trans (HOut.out.bl.mono HB1.out.size);obtain⟨bx,ox,u,un,ud,ucn,ucd,rfl,hbx,hu,uc0,uc1,uc2,huv⟩:=HX.out.pick (k:=k) Yl;obtain⟨hu1,hu2⟩:=za5 hu;have HU:=hid hu2;obtain⟨_,_,_,_,hue,u2,u3,u4,u5⟩:=(huv.below hbr).ex;cases hue;have e0:=(hbr.cell (p:=⟨bx,ox+k*3,none⟩) hbx).trans uc0;have e1:=(hbr.cell (p:=⟨bx,ox+k*3+1,none⟩) hbx).trans uc1;have e2:=(hbr.cell (p:=⟨bx,ox+k*3+2,none⟩) hbx).trans uc2;obtain⟨HBx0,HB2,HBr⟩:=hd3 (zem.alloc u2 u3 u4 u5 51) ((Ze wr.heap.size wr).alloc (Za _) (zbb u un ucn ud ucd 51)) hbr;have HLn:Hid ((((List.range k).map FF).map zc).length=k):=VS;have HSuc:Hid (((List.range (k+1)).map FF).map zc=((List.range k).map FF).map zc++[zc (FF k)]):=Kz;clear hu hu1 hu2 huv hbr uc0 uc1 uc2 u4 u5
   go_upto_region 7 with fail
   clear e0 e1 e2;generalize wr.alloc (zbb u un ucn ud ucd 51)=W2 at *;have f0:=(HLr.out.below HB2.out HLr.out.lt).f0;obtain⟨rn,rd,rcn,rcd,rbx,r2,r3,r4,r5⟩:=HBx0.out.ex
   go_upto_region 11 with fail
   clear f0;have HStep:=HSuc;rw[show zc (FF k)=u by rw[HFF.out];exact HU.out.symm]at HStep;have hse:∃s1,s1=u:=⟨_,rfl⟩
   obtain⟨s1,hse⟩:=hse;have hWe:∃W3,W3=W2:=⟨_,rfl⟩
   obtain⟨W3,hWe⟩:=hWe;subst hse hWe;have HBe:=HB2;exact U3
  exact Te
theorem zrk{y:List Rat}(n1 c1 n2 c2 cx nS cS nf cf:Nat)
 (hX:zm w ax (x.map zc))(hx2:x.length<=1000000)(hx1:∀q∈x,zD (zc q) 524286):
  Calls Tryz.prog 68 #[zcf 5 fr ot kh kw st pd a1 n1 c1 a2 n2 c2,.slice aS nS cS,.slice ax x.length cx,.slice af nf cf] w (zcF w (((List.range x.length).map (fun k=>zc7 (x.getD k 0) 0)).map zc)):=by
 have hxl':=hX.len;simp only[Zv]at hxl';obtain⟨HX,Hx1⟩:=hd2 hX hx1;clear hx1;obtain⟨HLB,HB1⟩:=hd2 (zmD.alloc w 5 fr ot kh kw st pd a1 n1 c1 a2 n2 c2 44) ((Ze w.heap.size w).alloc (Za _) (.cells #[.int .i64 5,.int .i64 fr,.int .i64 ot,.int .i64 kh,.int .i64 kw,.int .i64 st,.int .i64 pd,.slice a1 n1 c1,.slice a2 n2 c2] 44));obtain⟨FF,hFF⟩:∃FF:Nat->Rat,FF=(fun k=>zc7 (x.getD k 0) 0):=⟨_,rfl⟩
 rw[<- hFF];have HFF:=hid hFF;clear hX hFF;unfold zcf
 go_enter Tryz.func68,Tryz.ntmps68
 go_upto_region 1 with fail
 generalize w.alloc (.cells #[.int .i64 5,.int .i64 fr,.int .i64 ot,.int .i64 kh,.int .i64 kw,.int .i64 st,.int .i64 pd,.slice a1 n1 c1,.slice a2 n2 c2] 44)=Wx at *;have f0:=HLB.out.f0;go_wp2;clear f0
 go_loopw [9,27] (fun v i wr=>∃(k:Nat) (a:Option Addr) (c:Nat),k<=x.length/\v=.slice a k c/\i=.int .i64 (k:Int)/\Hid (zde Wx wr (.slice a k c) (((List.range k).map FF).map zc))) (fun _ i _=>x.length-(intOf i).toNat)
 case atStart=>exact⟨0,none,0,Zs _,rfl,rfl,zde.start Wx⟩
 case round=>
  obtain⟨k,b0,k0,hk,rfl,rfl,HOut⟩:=hrel;have HLr:=hid (HLB.out.below HOut.out.bl HLB.out.lt)
  by_cases hlt:k<x.length
  ·have hbr:Below w.heap.size w wr:=HB1.out.trans (HOut.out.bl.mono HB1.out.size);obtain⟨bx,ox,u,un,ud,ucn,ucd,rfl,hbx,hu,uc0,uc1,uc2,huv⟩:=HX.out.pick (k:=k) Yl;obtain⟨hu1,hu2⟩:=za5 hu;have HU:=hid hu2;obtain⟨_,_,_,_,hue,u2,u3,u4,u5⟩:=(huv.below hbr).ex;cases hue;have e0:=(hbr.cell (p:=⟨bx,ox+k*3,none⟩) hbx).trans uc0;have e1:=(hbr.cell (p:=⟨bx,ox+k*3+1,none⟩) hbx).trans uc1;have e2:=(hbr.cell (p:=⟨bx,ox+k*3+2,none⟩) hbx).trans uc2;obtain⟨HBx0,HB2,HBr⟩:=hd3 (zem.alloc u2 u3 u4 u5 51) ((Ze wr.heap.size wr).alloc (Za _) (zbb u un ucn ud ucd 51)) hbr;have HLn:Hid ((((List.range k).map FF).map zc).length=k):=VS;have HSuc:Hid (((List.range (k+1)).map FF).map zc=((List.range k).map FF).map zc++[zc (FF k)]):=Kz;clear hu hu1 hu2 huv hbr uc0 uc1 uc2 u4 u5
   go_upto_region 7 with fail
   clear e0 e1 e2;generalize wr.alloc (zbb u un ucn ud ucd 51)=W2 at *;have f0:=(HLr.out.below HB2.out HLr.out.lt).f0
   go_upto_region 8 with fail
   clear f0;obtain⟨s1,hs1⟩:∃s1,s1=zc (FF k):=⟨_,rfl⟩
   have HStep:=HSuc;rw[<- hs1]at HStep;obtain⟨sn,sd,scn,scd,hbxs,s2,s3,s4,s5⟩:=HBx0.out.ex;have HMx:Hid (Calls Tryz.prog 23 #[.agg #[.bool u.neg,.slice sn u.num.length scn,.slice sd u.den.length scd],.agg #[.bool false,.slice none 0 0,.slice none 0 0]] W2 (zcj W2 s1)):=by
    have h:=zrB (x:=u) (y:=zc 0) ⟨sn,sd,scn,scd,rfl,s2,s3,s4,s5⟩ (u:=.agg #[.bool false,.slice none 0 0,.slice none 0 0]) (by rw[zcz];exact⟨none,none,0,0,rfl,Za _,Za _,zw.nil _ _,zw.nil _ _⟩)
     (by rw[HU.out];exact Hx1.out _ (by rw[Zd,Zh hlt];exact Z1 _)) zh8
    rw[zH,HU.out,zH]at h;rw[hs1,HFF.out];rw[HU.out];exact h
   obtain⟨y0,y1,y2,yf,ylt⟩:=hbxs;clear hs1 s4 s5
   go_wp2_with fail
   refine HMx.out.mono ?_
   rintro e W4 ⟨v4,rfl,kv,kb⟩;obtain⟨rn,rd,rcn,rcd,rfl,r2,r3,r4,r5⟩:=kv.ex;obtain⟨HBx4,HBe⟩:=hd2 ((HBx0.out.below kb).store r2 r3 r4 r5) (zu (HB2.out.trans (kb.mono HB2.out.size)) (Za _) (.bool s1.neg) (.slice rn s1.num.length rcn) (.slice rd s1.den.length rcd));obtain⟨_,_,_,_,⟨y0,y1,y2,yf,ylt⟩,_⟩:=(HBx0.out.below kb).ex;clear kv kb r4 r5
   go_upto_region 9 with fail
   generalize((W4.setCell ⟨wr.heap.size,0,none⟩ (.bool s1.neg)).setCell ⟨wr.heap.size,1,none⟩ (.slice rn s1.num.length rcn)).setCell ⟨wr.heap.size,2,none⟩ (.slice rd s1.den.length rcd)=W3 at *;have f0:=(HLr.out.below HBe.out HLr.out.lt).f0
   go_upto_region 11 with fail
   clear f0;obtain⟨rn,rd,rcn,rcd,rbx,r2,r3,r4,r5⟩:=HBx4.out.ex;exact U3
  exact Te
theorem zrl(n1 c1 n2 c2 cx nS cS cf:Nat)
 (hX:zm w ax (x.map zc))(hx2:x.length<=1000000)(hY:zm w af (y.map zc))(hyl:x.length<=y.length)(hx1:∀q∈x,zD (zc q) 524286)(hy1:∀q∈y,zD (zc q) 524286):
  Calls Tryz.prog 68 #[zcf 7 fr ot kh kw st pd a1 n1 c1 a2 n2 c2,.slice aS nS cS,.slice ax x.length cx,.slice af y.length cf] w (zcF w (((List.range x.length).map (fun k=>x.getD k 0+y.getD k 0)).map zc)):=by
 have hxl':=hX.len;simp only[Zv]at hxl';obtain⟨HX,Hx1,Hy1,HY⟩:=hd4 hX hx1 hy1 hY;clear hx1 hy1 hY;obtain⟨HLB,HB1⟩:=hd2 (zmD.alloc w 7 fr ot kh kw st pd a1 n1 c1 a2 n2 c2 44) ((Ze w.heap.size w).alloc (Za _) (.cells #[.int .i64 7,.int .i64 fr,.int .i64 ot,.int .i64 kh,.int .i64 kw,.int .i64 st,.int .i64 pd,.slice a1 n1 c1,.slice a2 n2 c2] 44));obtain⟨FF,hFF⟩:∃FF:Nat->Rat,FF=(fun k=>x.getD k 0+y.getD k 0):=⟨_,rfl⟩
 rw[<- hFF];have HFF:=hid hFF;clear hX hFF;unfold zcf
 go_enter Tryz.func68,Tryz.ntmps68
 go_upto_region 1 with fail
 generalize w.alloc (.cells #[.int .i64 7,.int .i64 fr,.int .i64 ot,.int .i64 kh,.int .i64 kw,.int .i64 st,.int .i64 pd,.slice a1 n1 c1,.slice a2 n2 c2] 44)=Wx at *;have f0:=HLB.out.f0;go_wp2;clear f0
 go_loopw [9,27] (fun v i wr=>∃(k:Nat) (a:Option Addr) (c:Nat),k<=x.length/\v=.slice a k c/\i=.int .i64 (k:Int)/\Hid (zde Wx wr (.slice a k c) (((List.range k).map FF).map zc))) (fun _ i _=>x.length-(intOf i).toNat)
 case atStart=>exact⟨0,none,0,Zs _,rfl,rfl,zde.start Wx⟩
 case round=>
  obtain⟨k,b0,k0,hk,rfl,rfl,HOut⟩:=hrel;have HLr:=hid (HLB.out.below HOut.out.bl HLB.out.lt)
  by_cases hlt:k<x.length
  ·have hbr:Below w.heap.size w wr:=HB1.out.trans (HOut.out.bl.mono HB1.out.size);obtain⟨bx,ox,u,un,ud,ucn,ucd,rfl,hbx,hu,uc0,uc1,uc2,huv⟩:=HX.out.pick (k:=k) Yl;obtain⟨hu1,hu2⟩:=za5 hu;have HU:=hid hu2;obtain⟨_,_,_,_,hue,u2,u3,u4,u5⟩:=(huv.below hbr).ex;cases hue;have e0:=(hbr.cell (p:=⟨bx,ox+k*3,none⟩) hbx).trans uc0;have e1:=(hbr.cell (p:=⟨bx,ox+k*3+1,none⟩) hbx).trans uc1;have e2:=(hbr.cell (p:=⟨bx,ox+k*3+2,none⟩) hbx).trans uc2;obtain⟨HBx0,HB2,HBr⟩:=hd3 (zem.alloc u2 u3 u4 u5 51) ((Ze wr.heap.size wr).alloc (Za _) (zbb u un ucn ud ucd 51)) hbr;have HLn:Hid ((((List.range k).map FF).map zc).length=k):=VS;have HSuc:Hid (((List.range (k+1)).map FF).map zc=((List.range k).map FF).map zc++[zc (FF k)]):=Kz;clear hu hu1 hu2 huv hbr uc0 uc1 uc2 u4 u5
   go_upto_region 7 with fail
   clear e0 e1 e2;generalize wr.alloc (zbb u un ucn ud ucd 51)=W2 at *;have f0:=(HLr.out.below HB2.out HLr.out.lt).f0;obtain⟨s1,hs1⟩:∃s1,s1=zc (FF k):=⟨_,rfl⟩
   have HStep:=HSuc;rw[<- hs1]at HStep;obtain⟨un',ud',ucn',ucd',hbxs,s2,s3,s4,s5⟩:=HBx0.out.ex;have hb2:Below w.heap.size w W2:=HBr.out.trans (HB2.out.mono HBr.out.size);obtain⟨by_,oy,v,vn,vd,vcn,vcd,rfl,hby,hv,vc0,vc1,vc2,hvv⟩:=HY.out.pick (k:=k) Yl;obtain⟨hv1,hv2⟩:=za5 hv;have HAd:Hid (∀W,Below W2.heap.size W2 W->Calls Tryz.prog 78 #[.agg #[.bool u.neg,.slice un' u.num.length ucn',.slice ud' u.den.length ucd'],.agg #[.bool v.neg,.slice vn v.num.length vcn,.slice vd v.den.length vcd]] W (zcj W s1)):=fun W hb=>by
    have h:=zke (x:=u) (y:=v) ⟨un',ud',ucn',ucd',rfl,s2,s3,s4.below hb,s5.below hb⟩ (hvv.below (hb2.trans (hb.mono hb2.size)))
     (by rw[HU.out];exact Hx1.out _ (by rw[Zd,Zh hlt];exact Z1 _))
     (by rw[hv2];exact Hy1.out _ (by rw[Zd,Zh Ya];exact Z1 _))
    rw[hv1,HU.out,zH]at h;rw[hs1,HFF.out];rw[HU.out];exact h
   have HCe:Hid (∀W,Below W2.heap.size W2 W->W.cell? ⟨wr.heap.size,0,none⟩=some (.bool u.neg)/\W.cell? ⟨wr.heap.size,1,none⟩=some (.slice un' u.num.length ucn')/\W.cell? ⟨wr.heap.size,2,none⟩=some (.slice ud' u.den.length ucd')/\
     W.cell? ⟨by_,oy+k*3,none⟩=some (.bool v.neg)/\W.cell? ⟨by_,oy+k*3+1,none⟩=some (.slice vn v.num.length vcn)/\W.cell? ⟨by_,oy+k*3+2,none⟩=some (.slice vd v.den.length vcd)):=fun W hb=>by
    have hbw:=hb2.trans (hb.mono hb2.size);exact⟨(hb.cell hbxs.lt).trans hbxs.c0,(hb.cell hbxs.lt).trans hbxs.c1,(hb.cell hbxs.lt).trans hbxs.c2,(hbw.cell hby).trans vc0,(hbw.cell hby).trans vc1,(hbw.cell hby).trans vc2⟩
   have hky:k<y.length:=Ya;clear hs1 hbxs s4 s5 hb2 hv hv1 hv2 hvv vc0 vc1 vc2
   go_upto_region 10 with fail
   clear f0
   refine zj 6 Yb Yb Yb Yb Yd (zbZ W2.heap.size W2) (fun w w'=>Below w.heap.size w w') (GR [.val (.agg #[.bool u.neg,.slice un' u.num.length ucn',.slice ud' u.den.length ucd']),.val (.slice (some ⟨by_,oy,none⟩) y.length cf),.val (.int .i64 (k:Int)),.val (.pointer (some ⟨by_,oy+k*3,none⟩)),.val (.agg #[.bool v.neg,.slice vn v.num.length vcn,.slice vd v.den.length vcd]),.rat s1]) (fun i v w w' h hb=>zcY h hb) (zbZ.start (Za _)) ?_ ?_
   ·intro ops;simp only[Zo,Zw,zbR]
    refine⟨?v0,?v1,?v2,?v3,?v4,?_,trivial⟩
    all_goals (intro g W hR hL;have hB:=hR.base;obtain⟨x0,x1,x2,v0,v1,v2⟩:=HCe.out W hR.be;simp only[zdt,Region.binds,ZB,Zn,Zx,GR,Zf,Zc]at hL;simp[ze,Act.put])
    case v0|v1|v2|v3|v4=>
     exact Ut
    ·try simp only[hL]
     clear hL;have HR:=hid hR;clear hR;have HCt:=hid (HAd.out W HR.out.be);exact Um
   ·intro ops g W hR hL;have hB:=hR.base;have J5:=hL.2;simp only[GR,Zf,Zc]at J5;obtain⟨x0,x1,x2,v0,v1,v2⟩:=HCe.out W hR.be;clear hL;simp only[Zo,Zw,ZG,ZO];simp[ze,Act.put];generalize g 5=y5 at J5⊢;have HR:=hid hR;clear hR;obtain⟨rn,rd,rcn,rcd,rfl,r2,r3,r4,r5⟩:=J5.ex;have HBw:=hid (show Below W2.heap.size W2 W from HR.out.be);obtain⟨HBx4,HBe⟩:=hd2 ((HBx0.out.below HBw.out).store r2 r3 r4 r5) (zu (HB2.out.trans (HBw.out.mono HB2.out.size)) (Za _) (.bool s1.neg) (.slice rn s1.num.length rcn) (.slice rd s1.den.length rcd));obtain⟨_,_,_,_,⟨y0,y1,y2,yf,ylt⟩,_⟩:=(HBx0.out.below HBw.out).ex;clear J5 r4 r5
    go_upto_region 11 with fail
    generalize((W.setCell ⟨wr.heap.size,0,none⟩ (.bool s1.neg)).setCell ⟨wr.heap.size,1,none⟩ (.slice rn s1.num.length rcn)).setCell ⟨wr.heap.size,2,none⟩ (.slice rd s1.den.length rcd)=W3 at *;obtain⟨rn,rd,rcn,rcd,rbx,r2,r3,r4,r5⟩:=HBx4.out.ex;exact U3
  exact Te
theorem Bd.small{M N:Nat}(h:Bd D B q)(hD:D<=M)(hB:B<=N)(hk:N*M+M<4294967296^k):zD (zc q) k:=
 h.le (ZaB (Nat.add_le_add (ZY hB hD) hD) hk)
theorem zb3:∀{L:List zaf},L.all zP=true->L=(L.map zT).map zc
 | [],_=>rfl
 | x::r,h=>by
  rw[List.all_cons,Zu]at h;have h1:=h.1;unfold zP at h1;rw[ZC,za0]at h1;rw[Zbf,Zbf,<- zb3 h.2,<- h1]
theorem zey{α β:Type}(x:List α)(d:α)(f:α->β):(List.range x.length).map (fun k=>f (x.getD k d))=x.map f:=by
 refine List.ext_getElem? fun i=>?_
 rw[ZN,ZN]
 by_cases hi:i<x.length
 ·rw[Zam hi,Zh hi];simp[List.getD,hi]
 ·rw[ZaW JA,ZaW Ya];rfl
theorem zka(x:List Rat):zmc x=(List.range x.length).map fun k=>zc7 (x.getD k 0) 0:=(zey x 0 fun q=>zc7 q 0).symm
theorem zl2(x:List Rat):x=(List.range x.length).map fun k=>x.getD k 0:=by
 have:=zey x 0 (fun q:Rat=>q);rw[List.map_id']at this;exact this.symm
def zo6(D B:Nat):Prop:=(9671406556917033397649408*B)*(D*WQ)+D*WQ<4294967296^524285
theorem zo6.bd{D':Nat}(h:zo6 D B)(hq:Bd D' B' q)(hD:D'<=D*WQ)(hB:B'<=9671406556917033397649408*B):zD (zc q) 524285:=hq.small hD hB h
theorem zpD{w:World}{l:zac}{s:List Int}{x y:List Rat}{a1 a2 aS ax af:Option Addr}{F:Nat->Prop}{D B:Nat}(c1 c2 cS cx nf cf:Nat)(hf:zqK l s)(hn:zeC l=true)(hx:(x.length:Int)=zt s)(hxl:x.length<=16384)(hx1:1<=x.length)
 (h1:zm w a1 l.weights)(h2:zm w a2 l.bias)(hc:l.weights.length<=c1)(hS:zah w F aS s)(hX:zm w ax (x.map zc))(hy:l.kind=7->nf=y.length/\zm w af (y.map zc)/\x.length<=y.length)
 (hsm:zbN l)(hxB:BdL D B x)(hyB:BdL D B y)(hD:0<D)(hB:1<=B)(hR:zo6 D B):
  Calls Tryz.prog 68 #[zcf l.kind l.frm l.out l.kh l.kw l.stride l.pad a1 l.weights.length c1 a2 l.bias.length c2,.slice aS s.length cS,.slice ax x.length cx,.slice af nf cf] w (zcF w ((zgx l s x y).map zc)):=by
 unfold zeC at hn;rw[Zu]at hn;have hw:l.weights=(wq l).map zc:=zb3 hn.1;have hb:l.bias=(bq l).map zc:=zb3 hn.2;have hwl:l.weights.length=(wq l).length:=by simp[wq]
 have hbl:l.bias.length=(bq l).length:=by simp[bq]
 have pp:D*1<=D*WQ:=ZQ _ (zcD);rw[Zba]at pp;have hBB:B<=9671406556917033397649408*B:=Ya;have hxR:∀q∈x,zD (zc q) 524285:=fun q hq=>hR.bd (hxB q hq) pp hBB
 rw[hw]at h1;rw[hb]at h2;have wide:∀W:Nat,W<=4294967296^(wq l++bq l).length->W*D<=D*WQ:=fun W h=>by
  rw[ZD];exact ZQ _ (zih h hsm.len)
 have part:∀{n k:Nat},n<=262144->k<=n->18446744073709551616+k*(18446744073709551616*B)<=9671406556917033397649408*B:=fun hn hk=>zgP (Zi hk hn) hB
 obtain⟨W,w1,w2,w3⟩:=BdL.small _ hsm.num;have hwW:BdL W 18446744073709551616 (wq l):=fun q hq=>w3 q (ZaQ _ hq)
 have hbW:BdL W 18446744073709551616 (bq l):=fun q hq=>w3 q (List.mem_append_right _ hq)
 have hWD:=wide W w2;have hWD1:W<=W*D:=ZaE _ hD;have hwR:∀q∈wq l,zD (zc q) 1048575:=fun q hq=>(hR.bd (hwW q hq) Ya Ya).mono Ya
 have hpR:∀p∈wq l,∀q∈x,zD (zc (p*q)) 524286:=fun p hp q hq=>(hR.bd ((hwW p hp).mul (hxB q hq)) hWD Ya).mono Ya
 have hsR:∀(r lo n:Nat) (ix:List Int) (k:Nat),k<=262144->zD (zc (zgc ((bq l).getD r 0) (zas (wq l) lo n) 0 ix x k)) 524286:=fun r lo n ix k hk=>
  (hR.bd (Bd.psum (hbW.at w1 r) (hwW.part lo n) hxB hD 0 ix k) hWD (part (Za _) hk)).mono Ya
 unfold zgx;rw[hwl,hbl];rw[hwl]at hc
 cases hf with
 | dense R hk ho h1' h2' hb' hw'=>
  rw[Zm hk,hk,ho];rw[hwl]at hw';rw[hbl]at hb';have e:(zt s).toNat=x.length:=Ya;rw[e]at hw';exact zps c1 c2 cx s.length cS nf cf h1 h2 hX hx1 Ya Ya hc Ya Ya hwR (fun q hq=>(hxR q hq).mono Ya) hpR (fun r _ k hk=>hsR r _ _ _ k Ya)
 | conv q O hk hq ht hs' e1 e2 e3 e4 ho h1' hb' hw' hwin hz=>
  rw[hwl]at hw';rw[hbl]at hb';have hbd:=Win.len_bd hq ht;rw[q.one_len]at hbd;have hal:=q.all_len;have hkk:=ZL q.C q.kh q.kw;have hsz:x.length=q.C*q.H*q.W:=US;have hC:s.getD 0 0=(q.C:Int):=Xa;rw[Zg Ya,Zm hk,hwin,hC,hk,ho,e1,e2,e3,e4];rw[e1,e2,e3,e4]at hwin;simp only[ZaH];have hck:q.C*q.kh<=262144:=Zi (ZaE _ hq.kw1) (by rw[hkk];exact hbd.2.1);exact zrf (C:=q.C) (ck:=q.C*q.kh) (n:=q.C*q.kh*q.kw) (T:=q.all.length) c1 c2 cx cS nf cf h1 h2 hX hS Xa rfl rfl Ya (by rw[hkk];exact hbd.2.2.2.2) Ug
   (by rw[hwin]) rfl (Zi hbd.1 Yd) (by rw[hkk];exact q.all_one_len') (by rw[hsz];exact hq.all_lt) (ZbA hb'.symm) (ZbA hw'.symm) hc (by have:=ZaE O (Zb Nat.zero_lt_one hbd.2.2.2.1);rw[hal]at this;omega) (by rw[hal];omega)
   hwR (fun q hq=>(hxR q hq).mono Ya) hpR (fun o _ ix _ k hk=>hsR o _ _ ix k Ya)
 | pool q hk hq ht hs' e1 e2 e3 e4 hp hwin hz=>
  have hbd:=Win.len_bd hq ht;rw[q.one_len]at hbd;have hal:=q.all_len;have hsz:x.length=q.C*q.H*q.W:=US;have hC:s.getD 0 0=(q.C:Int):=Xa;have hix:∀ix∈q.all,∀i∈ix,0<=i/\i<(x.length:Int):=fun ix hi i hj=>⟨hq.all_nn hp ix hi i hj,V5⟩
  have hpos:1<=q.kh*q.kw:=Zak hq.kh1 hq.kw1;have hkl:q.kh*q.kw<=262144:=Zi (Zad _ hq.c1) hbd.2.1;rw[Zg Ya,Zg Ya,hwin,hC,e1,e2,e3];rw[e1,e2,e3]at hwin;simp only[ZaH]
  rcases hk with hk|hk
  ·rw[Zm hk,hk];exact zok (C:=q.C) (n:=q.kh*q.kw) (T:=q.all.length) (ln:=q.C*(q.kh*q.kw)) _ c1 _ c2 cx cS nf cf hX hS Xa rfl hpos (Zi hkl Yd) rfl (Zi hbd.2.1 Yd)
    (by rw[hwin]) rfl (Zi hbd.1 Yd) q.all_one_len' hix Jl hxR (fun ch _ ix _ k _=>(hR.bd (Bd.pmax (hxB.vals hD (zas ix (ch*(q.kh*q.kw)) (q.kh*q.kw))) hD k) pp hBB).mono Yd)
  ·rw[Zg Ya,Zm hk,hk];exact zos (C:=q.C) (n:=q.kh*q.kw) (T:=q.all.length) (ln:=q.C*(q.kh*q.kw)) _ c1 _ c2 cx cS nf cf hX hS Xa rfl hpos (Zi hkl Yd) rfl (Zi hbd.2.1 Yd)
    (by rw[hwin]) rfl (Zi hbd.1 Yd) q.all_one_len' hix Jl hxR (fun ch _ ix _ k hk2=>(hR.bd (Bd.padd (hxB.vals hD (zas ix (ch*(q.kh*q.kw)) (q.kh*q.kw))) hD k) pp (Zl B Ya)).mono Yd)
 | keep hk=>
  rw[Zg Ya,Zg Ya,Zg Ya,Zg Ya]
  rcases hk with hk|hk
  ·rw[Zm hk,hk,zka];exact zrk (y:=y) _ c1 _ c2 cx s.length cS nf cf hX Ya (fun q hq=>(hxR q hq).mono Ya)
  ·rw[Zg Ya,Zg Ya,hk];have h:=zq9 (w:=w) (fr:=l.frm) (ot:=l.out) (kh:=l.kh) (kw:=l.kw) (st:=l.stride) (pd:=l.pad) (a1:=a1) (a2:=a2) (ax:=ax) (aS:=aS) (af:=af) (x:=x) (y:=y) (wq l).length c1 (bq l).length c2 cx s.length cS nf cf hX Ya;rw[<- zl2 x]at h;exact h
 | add hk=>
  rw[Zg Ya,Zg Ya,Zg Ya,Zg Ya,Zg Ya,Zm hk,hk];obtain⟨rfl,hY,hyl⟩:=hy hk;unfold zna;exact zrl _ c1 _ c2 cx s.length cS cf hX Ya hY hyl (fun q hq=>(hxR q hq).mono Ya) (fun q hq=>(hR.bd (hyB q hq) pp hBB).mono Ya)
theorem RatV.parts{an ad:Option Addr}{cn cd:Nat}{x:zaf}(h:RatV w (.agg #[.bool x.neg,.slice an x.num.length cn,.slice ad x.den.length cd]) x):x.num.length<=cn/\x.den.length<=cd/\zw w an x.num/\zw w ad x.den:=by
 obtain⟨an',ad',cn',cd',e,h2,h3,h4,h5⟩:=h.ex;cases e;exact⟨h2,h3,h4,h5⟩
structure AcI (w wr:World) (g:Nat) (q:zaf):Prop where
 box:zem wr g q
 bl:Below w.heap.size w wr
 ge:w.heap.size<=g
theorem AcI.below{q:zaf}(h:AcI w wr g q)(hb:Below wr.heap.size wr W):AcI w W g q:=⟨h.box.below hb,h.bl.trans (hb.mono h.bl.size),h.ge⟩
theorem AcI.step{q y:zaf}{bn bd:Option Addr}{dn dd:Nat}(h:AcI w wr g q)(hb:Below wr.heap.size wr W)
 (g2:y.num.length<=dn)(g3:y.den.length<=dd)(g4:zw W bn y.num)(g5:zw W bd y.den):
  AcI w (((W.setCell ⟨g,0,none⟩ (.bool y.neg)).setCell ⟨g,1,none⟩ (.slice bn y.num.length dn)).setCell ⟨g,2,none⟩ (.slice bd y.den.length dd)) g y:=
 ⟨(h.box.below hb).store g2 g3 g4 g5,zu (h.bl.trans (hb.mono h.bl.size)) h.ge _ _ _,h.ge⟩
theorem zd8{P:Program}{ops:Array Oper}{rest:List Oper}{o:Oper}{a:Act}{Q:Exit->Act->World->Prop}(hgd:o.guard=none)(s x:Operand)(t:TypeId)
 (ho:o.op=.call {callee:=.builtin .append,args:=#[s,x],argTypes:=#[t,t]})
 (base:Nat)(ht:P.underlying t=some (.slice 51))(hinfo:(P.info? 51).map (fun i=>(i.zero,i.size,i.bytes))=some (some (.agg #[.bool false,.slice none 0 0,.slice none 0 0]),3,56))
 (v:Value)(n:Nat)(L:List zaf)(hn:L.length=n)(hs:a.eval s=v)(hown:zhm w base v L)(u:Value)(y:zaf)(hu:zj4 w u y)
 (hx:a.eval x=u)(hL:n+1<=2000000000000)(hbase:base<=w.heap.size)
 (h:∀b k w',zhm w' base (.slice b (n+1) k) (L++[y])->n+1<=k->w.grownBy w' v.ownBlock->Below base w w'->zi7 w v (.slice b (n+1) k)->wpList P ops Q rest (a.put o.dst (.slice b (n+1) k)) w'):
  wpList P ops Q (o::rest) a w:=by
 subst hn
 refine wpList_plain hgd fun K hK=>?_
 obtain⟨i,hi,hz,hsize,hby⟩:=info_parts hinfo;obtain⟨xs,hox,he⟩:=hown.ex;obtain⟨g,an,ad,cn,cd,rfl,hg,c0,c1,c2,h1,h2,h3,h4⟩:=hu.ex;have hcells:∀(j:Nat) (u:Value),[Value.bool y.neg,.slice an y.num.length cn,.slice ad y.den.length cd][j]? =some u->w.cell? (Addr.add ⟨g,0,none⟩ j)=some u:=EA;obtain⟨v',w',hr,r2,r3,r4,r5⟩:=zfc (P:=P) w base t o.type _ i _ 3 56 ht hi hz hsize hby Kk Ya v L.length xs hox ⟨g,0,none⟩ 1 1
  [.bool y.neg,.slice an y.num.length cn,.slice ad y.den.length cd] rfl hcells
  Yp Ya Yf Ya hbase
  hown.no Yp Xr
 have hO:=hown.app (x:=y) (w':=w') (v':=v') (xs:=xs) (an:=an) (ad:=ad) (cn:=cn) (cd:=cd) he hox.1 h1 h2 h3 h4 r2 r3 r5;have hbe:Below base w w':=(Ze base w).grown r3 hbase (fun k hk=>(hown.lt hk).1);obtain⟨b,k,e,hk⟩:=zgO r2;exact Ei
theorem zm.srcE(h:zm w a L):∃news,zho w a L.length 3 news/\∀(j:Nat) (x:zaf),L[j]? =some x->∃(an ad:Option Addr) (cn cd:Nat),news[j*3]? =some (.bool x.neg)/\news[j*3+1]? =some (.slice an x.num.length cn)/\news[j*3+2]? =some (.slice ad x.den.length cd)/\RatV w (.agg #[.bool x.neg,.slice an x.num.length cn,.slice ad x.den.length cd]) x:=by
 rcases h.row with rfl|⟨b,off,rfl,hb,hc⟩
 ·exact⟨[],⟨rfl,Yc,fun h=>absurd h Yc⟩,Yc⟩
 ·have hall:∀p,p<L.length*3->∃u,w.cell? ⟨b,off+p,none⟩=some u/\u.oneCell'=true:=by
   intro p hp;have hj:p/3<L.length:=Ya;obtain⟨an,ad,cn,cd,h0,h1,h2,_⟩:=hc (p/3) _ (Zh hj);have hm:p%3=0∨p%3=1∨p%3=2:=Ya
   rcases hm with hm|hm|hm
   ·rw[show off+p=off+p/3*3 from Ya];exact⟨_,h0,rfl⟩
   ·rw[show off+p=off+p/3*3+1 from Ya];exact⟨_,h1,rfl⟩
   ·rw[show off+p=off+p/3*3+2 from Ya];exact⟨_,h2,rfl⟩
  refine⟨(List.range (L.length*3)).map (fun p=>(w.cell? ⟨b,off+p,none⟩).getD (.bool false)),⟨Yc,?_,fun _=>⟨b,off,rfl,hb,?_⟩⟩,?_⟩
  ·intro u hu;obtain⟨p,hp,rfl⟩:=ZP.1 hu;obtain⟨u',h1,h2⟩:=hall p (Z5.1 hp);rw[h1];exact h2
  ·intro j u hj;rw[ZN]at hj;obtain⟨p,hp,rfl⟩:=Option.map_eq_some_iff.1 hj;have hpl:=(Zr.1 hp).1;have hpe:p=j:=by rw[Zam (by simpa using hpl)]at hp;exact(Option.some.inj hp).symm
   subst hpe;obtain⟨u',h1,_⟩:=hall p (by simpa using hpl);rw[h1];rfl
  ·intro j x hx;have hj:=(Zr.1 hx).1;obtain⟨an,ad,cn,cd,h0,h1,h2,h3⟩:=hc j x hx
   refine⟨an,ad,cn,cd,?_,?_,?_,h3⟩
   ·rw[ZN,Zam Ya];simp[h0]
   ·rw[ZN,Zam Ya];simp only[Option.map_some,<- Zat,h1,Option.getD_some]
   ·rw[ZN,Zam Ya];simp only[Option.map_some,<- Zat,h2,Option.getD_some]
theorem zmP{news:List Value}(hown:w.ownsRow base T 3 v n news)(hL:L.length=n)(hl:n<=9223372036854775807)
 (hn:∀(j:Nat) (x:zaf),L[j]? =some x->∃(an ad:Option Addr) (cn cd:Nat),news[j*3]? =some (.bool x.neg)/\news[j*3+1]? =some (.slice an x.num.length cn)/\news[j*3+2]? =some (.slice ad x.den.length cd)/\RatV w (.agg #[.bool x.neg,.slice an x.num.length cn,.slice ad x.den.length cd]) x):
  ∃a c,v=.slice a L.length c/\L.length<=c/\zm w a L:=by
 subst hL
 rcases hown.2 with⟨rfl,h0⟩|⟨g,cap,cur,e,hb,hg,hnc,hcm,hcs,htake⟩
 ·exact⟨none,0,by rw[h0],Ya,⟨hl,.inl (Zy h0)⟩⟩
 ·subst e
  refine⟨_,cap,rfl,hnc,⟨hl,.inr ⟨g,0,rfl,(ZF.1 hg).1,fun j x hj=>?_⟩⟩⟩
  obtain⟨an,ad,cn,cd,h1,h2,h3,h4⟩:=hn j x hj;have hc:=hown.cells (g:=g) rfl;have k0:=hc _ _ h1;have k1:=hc _ _ h2;have k2:=hc _ _ h3;simp only[Zaq]at k0 k1 k2;exact⟨an,ad,cn,cd,k0,k1,k2,h4⟩
theorem zlL(w:World)(T:Nat):(w.alloc (.cells #[] T)).heap[w.heap.size]? =some (.cells #[] T (0,0)):=by
 show(w.heap.push _)[w.heap.size]? =_
 exact Iz
theorem run_storeF{P:Program}{w:World}(a:Addr)(m:Mode)(f:Fn)(x y:Array Value):(store a (.func f x y) m).run P w=stored P w a (.func f x y) m:=run_store P w a _ m rfl
attribute [local go_sem] run_storeF
def zbH(x:zaf):Bool:=decide (x.num.length<=2) && decide (x.den.length<=1)
def zaR(L:List zaf):Bool:=L.all zbH && L.all zP
theorem zmL{x:zaf}(hx:L[j]? =some x):(L.take (j+1)).all zbH=((L.take j).all zbH && zbH x):=by
 rw[zar hx,Zbx];simp
def zdN(l:zac):Bool:=decide (l.weights.length<=60) && (decide (l.bias.length<=60) && (zaR l.weights && zaR l.bias))
def zhq(m:zec)(L:List zaf):Bool:=decide (m.layers.length<=8) && (decide (zt m.input<=30) && (decide (L.length<=30) && (decide (m.input.length<=8) && (m.layers.all zdN && zaR L))))
theorem zn6{L:List zac}{x:zac}(hx:L[j]? =some x):(L.take (j+1)).all zdN=((L.take j).all zdN && zdN x):=by
 rw[zar hx,Zbx];simp
