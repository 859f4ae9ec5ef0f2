/-
  Contracts: AppS, RefB, RefC, RefD.
-/
import Derived.Deep.RegionHeld3
import Derived.Deep.RegionLaw
import Derived.OwnWalk
import Derived.Test.YtfgmmghmmfmdgaaGreatY4
import Derived.Test.YtfgmmghmmfmdgaaGreatY0
set_option linter.all false
set_option maxRecDepth 100000
set_option maxHeartbeats 3200000
namespace Go.Proofs.YtfgmmghmmfmdgaaGreat
open Go.RowKit
open Go.Lib (hid)
variable {P:Prop} {w:World} {m l:List Nat} {size n x base y:Nat} {b a:Option Addr}
theorem UK(h:P:=by
 clear hor
 go_wp2_with (first|(go_at_call 147;first|((with_reducible refine(C1.out _ hBw.out).mono ?_);rintro e' w' ⟨rfl,rfl⟩)|((with_reducible refine(C2.out _ hBw.out).mono ?_);rintro e' w' ⟨rfl,rfl⟩))|(at_builtin;refine zal rfl (.tmp 31) (.tmp 34) 48 rfl w.heap.size 109 (.int .u32 0) 4 Tryz.underlying48 Tryz.infoU32 rfl _ k _ rfl hO.out _ rfl rfl Ya Yh hBw.out.size ?_;intro v' w' hown hg hn))
 go_roundw
 case rel=>
  refine⟨k+1,hlt,Yg,by rw[HCn.out];go_num,?_,hBw.out.grown hg hBw.out.size (fun k hk=>(hO.out.lt k hk).1)⟩
  unfold Hid;rw[HSc.out]
  simpa using hown
 case measure=>simp[intOf];omega
):P:=h
theorem Ij(h:P:=by rw[Array.getElem?_push,Zq rfl]):P:=h
structure zhM (w:World) (A:Option Addr) (m size:Nat) (news:List Value):Prop where
 len:news.length=m*size
 one:∀u∈news,u.oneCell'=true
 at_:0<m->∃b off,A=some ⟨b,off,none⟩/\b<w.heap.size/\∀j u,news[j]? =some u->w.cell? ⟨b,off+j,none⟩=some u
theorem zhM.below{w':World}{A:Option Addr}{m:Nat}{news:List Value}(h:zhM w A m size news)(hb:Below w.heap.size w w'):zhM w' A m size news:=
 ⟨h.len,h.one,fun hm=>let ⟨b,off,e,hl,hc⟩:=h.at_ hm;⟨b,off,e,Zd hl hb.size,fun j u hj=>(hb.cell hl).trans (hc j u hj)⟩⟩
theorem zgX{P:Program}{w:World}{base:Nat}{t ty e:TypeId}{z:Value}{size bytes:Nat}(ht:P.underlying t=some (.slice e))(hinfo:(P.info? e).map (fun i=>(i.zero,i.size,i.bytes))=some (some z,size,bytes))(hz1:z.cells.size=size)(hsz:0<size)
 {v:Value}{n:Nat}{xs:List Value}(hown:w.ownsRow base e size v n xs){A:Option Addr}{m c:Nat}{news:List Value}(hsrc:zhM w A m size news)
 (hbytes:(n+m)*bytes<=140737488355328)(h63:n+m<=maxLen)(hbase:base<=w.heap.size):
  ∃v' w',(Builtin.append_ #[t,t] ty #[v,.slice A m c]).run P w=.ok v' w'/\w'.ownsRow base e size v' (n+m) (xs++news)/\w.grownBy w' v.ownBlock/\ziB w v v':=by
 obtain⟨i,hi,hz,hsize,hby⟩:=info_parts hinfo;subst hsize;have hsmall:n+m<=9223372036854775807:=XM
 rcases ZaH m with h0|h0
 ·subst h0;have hnil:news=[]:=ZA (by rw[hsrc.len];simp);subst hnil
  cases A with
  | some ad=>
   rcases hown.2 with⟨rfl,rfl⟩|⟨g,cap,cur,rfl,hbg,hg,hnc,hcm,hcs,htake⟩
   ·obtain⟨v',w',hr,h2,h3,h4⟩:=run_append_own (P:=P) w base t ty e i z i.size bytes ht hi hz rfl hby hz1 hsz _ 0 xs hown ad 0 c [] Yd JQ Vq h63 hbytes hbase;have hv:=h4.2 ⟨rfl,rfl⟩;subst hv;exact⟨_,w',hr,h2,h3,.inl rfl⟩
   ·obtain⟨v',w',hr,h2,h3,_⟩:=run_append_own (P:=P) w base t ty e i z i.size bytes ht hi hz rfl hby hz1 hsz _ n xs hown ad 0 c [] Yd JQ Vq h63 hbytes hbase;have hr':=run_append_room (P:=P) w t ty e i ht hi g n cap cur hg ad 0 c [] Yd JQ Vq Ya (by rw[hcs];simp;exact Zp _ hnc);have hrr:=hr;rw[hr']at hrr;cases hrr;exact⟨_,_,hr,h2,h3,.inl rfl⟩
  | none=>
   refine⟨v,w,?_,VA,⟨rfl,rfl,rfl,Za _,fun _ _ _=>rfl⟩,.inl rfl⟩
   rcases hown.2 with⟨rfl,rfl⟩|⟨g,cap,cur,rfl,_,_,hnc,_⟩
   ·simp[Builtin.append_,run_underlying ht,sizeOf,typeInfo,hi,Builtin.lenOf,Builtin.firstCells]
   ·simp[Builtin.append_,run_underlying ht,sizeOf,typeInfo,hi,Builtin.lenOf,Builtin.firstCells,hnc,storeCells]
 ·obtain⟨b,off,rfl,_,hc⟩:=hsrc.at_ h0;exact zbw w base t ty e i z i.size bytes ht hi hz rfl hby hz1 hsz v n xs hown ⟨b,off,none⟩ m c news hsrc.len
   (by intro j u hj;rw[Zav];exact hc j u hj) hsrc.one h0 h63 hbytes hbase
theorem zlQ{P:Program}{t tx ty e:TypeId}{c:Nat}{x:Value}(ht:P.underlying t=some (.slice e))(htx:P.underlying tx=some (.slice e)):
  (Builtin.append_ #[t,tx] ty #[.slice b n c,x]).run P w=(Builtin.append_ #[t,t] ty #[.slice b n c,x]).run P w:=by
 simp[Builtin.append_,run_underlying ht,run_underlying htx]
theorem zZ{P:Program}{ops:Array Oper}{rest:List Oper}{o:Oper}{a:Act}{Q:Exit->Act->World->Prop}(hgd:o.guard=none)(s x:Operand)(t tx:TypeId)
 (ho:o.op=.call {callee:=.builtin .append,args:=#[s,x],argTypes:=#[t,tx]})
 (base:Nat)(e:TypeId)(z:Value)(size bytes:Nat)(ht:P.underlying t=some (.slice e))(htx:P.underlying tx=some (.slice e))(hinfo:(P.info? e).map (fun i=>(i.zero,i.size,i.bytes))=some (some z,size,bytes))(hz1:z.cells.size=size)(hsz:0<size)
 (v:Value)(n:Nat)(xs:List Value)(hs:a.eval s=v)(hown:w.ownsRow base e size v n xs)(A:Option Addr)(m c:Nat)(news:List Value)
 (hx:a.eval x=.slice A m c)(hsrc:zhM w A m size news)
 (hbytes:(n+m)*bytes<=140737488355328)(h63:n+m<=maxLen)(hbase:base<=w.heap.size)
 (h:∀v' w',w'.ownsRow base e size v' (n+m) (xs++news)->w.grownBy w' v.ownBlock->ziB w v v'->wpList P ops Q rest (a.put o.dst v') w'):wpList P ops Q (o::rest) a w:=by
 refine wpList_plain hgd fun K hK=>?_
 obtain⟨v',w',hr,h2,h3,h4⟩:=zgX (ty:=o.type) (c:=c) ht hinfo hz1 hsz hown hsrc hbytes h63 hbase;have hv:∃b k c,v=.slice b k c:=by
  rcases hown.2 with⟨e,_⟩|⟨g,cap,_,e,_⟩
  ·exact⟨_,_,_,e⟩
  ·exact⟨_,_,_,e⟩
 obtain⟨b,k,c',rfl⟩:=hv;rw[<- zlQ ht htx]at hr;unfold Oper.wp execOp;simp only[ho,resolve,invoke,builtin,Sem.run_bind,Sem.run_pure,Result.andThen_ok,List.map_toArray,ZbB,List.map_nil,hs,hx,hr];exact hK _ _ (h v' w' h2 h3 h4)
theorem zdJ{T g:Nat}(h:w.heap[g]? =some (.cells #[] T (0,0)))(hb:base<=g):w.ownsRow base T size (.slice (some ⟨g,0,none⟩) 0 0) 0 []:=
 ⟨Yd,.inr ⟨g,0,#[],rfl,hb,h,Za _,Yh,Yd,Yd⟩⟩
theorem zt.src(h:zt w a l):zhM w a l.length 1 (l.map fun d:Nat=>Value.int .u32 (d:Int)):=by
 refine⟨Yd,?_,fun hp=>?_⟩
 ·intro u hu;obtain⟨x,_,rfl⟩:=ZX.1 hu;rfl
 ·rcases h.row with rfl|⟨b,off,rfl,hb,hc⟩
  ·simp at hp
  ·refine⟨b,off,rfl,hb,fun j u hj=>?_⟩
   rw[ZV]at hj;obtain⟨d,hd,rfl⟩:=Option.map_eq_some_iff.1 hj;exact hc j d hd
def Far(n:Nat)(a:Option Addr):Prop:=∀p,a=some p->n<=p.block
theorem Far.mono{m:Nat}(h:Far n a)(hm:m<=n):Far m a:=fun p e=>Zl hm (h p e)
theorem Far.none(n:Nat):Far n none:=fun _ e=>by cases e
theorem zt.ownF{E:Nat}{v:Value}(h:w.ownsRow base E 1 v l.length (l.map fun d:Nat=>Value.int .u32 (d:Int)))(hl:Lim l)(hn:l.length<=9223372036854775807):
  ∃a c,v=.slice a l.length c/\l.length<=c/\zt w a l/\Far base a:=by
 obtain⟨a,c,h1,h2,h3⟩:=zt.own h hl hn
 refine⟨a,c,h1,h2,h3,?_⟩
 rcases h.2 with⟨rfl,hz⟩|⟨g,cap,cur,rfl,hb,_⟩
 ·injection h1 with e1
  subst e1;exact Far.none _
 ·injection h1 with e1
  subst e1;intro p e;cases e;exact hb
def zpU(w:World)(v:Nat)(e:Ending)(w':World):Prop:=∃a c,e=.returned (.slice a (ze v).length c)/\(ze v).length<=c/\zt w' a (ze v)/\Below w.heap.size w w'/\Far w.heap.size a
theorem zsY(w:World)(o:Obj):(w.alloc o).heap[w.heap.size]? =some o:=by
 show(w.heap.push o)[w.heap.size]? =_
 exact Ij
theorem zdv{w:World}{a:Option Addr}{l:List Nat}(c:Nat)(hc:l.length<=c)(h:zt w a l)(hr:l.length*4<=140737488355328):
  Calls Tryz.prog 107 #[.slice a l.length c] w (zpU w (zo l)):=by
 have hlen:=h.len;obtain⟨HU,HL,HCap⟩:=hd3 h h.lim hc;clear h
 go_enter Tryz.func107,Tryz.ntmps107
 go_wp2
 go_loop [3] (fun i=>∃n:Nat,n<=l.length/\i=.int .i64 n/\Hid (∀i,n<=i->i<l.length->dig l i=0)) (fun i=>(intOf i).toNat)
 case atStart=>exact⟨l.length,Za _,rfl,fun i h1 h2=>Ya⟩
 case round=>
  obtain⟨n,hn,rfl,hz⟩:=hrel
  by_cases hgo:∃m,n=m+1/\dig l m=0
  ·obtain⟨m,rfl,hd⟩:=hgo;obtain⟨b,off,rfl,hb,hcell⟩:=HU.out.pick (show m<l.length from Ya);have e1:((m+1:Nat):Int)-1=(m:Int):=Ya;rw[hd]at hcell;have HZ2:Hid (∀i,m<=i->i<l.length->dig l i=0):=fun i h1 h2=>by
    by_cases hi:i=m
    ·rw[hi];exact hd
    ·exact hz.out i Ya h2
   clear hd;go_wp2;go_round
   case rel=>exact⟨m,Ya,Yg,HZ2⟩
   case measure=>simp[intOf]
  ·have hnl:n=0∨dig l (n-1)≠0:=by
    rcases ZaH n with h0|h0
    ·exact .inl h0
    ·exact .inr fun e=>hgo ⟨n-1,Ya,e⟩
   obtain⟨HT,HS⟩:=hd2 (zfh HL.out hn hz.out hnl) ((HU.out.take n).src);have hln:(l.take n).length=n:=Yj;have HLn:=hid hln;clear hgo hz hln
   cases n with
   | zero=>
    go_wp2_with (at_builtin;refine zZ rfl (.tmp 18) (.tmp 21) 49 48 rfl w.heap.size 109 (.int .u32 0) 1 4 Tryz.underlying49 Tryz.underlying48 Tryz.infoU32 rfl Ya (.slice (some ⟨w.heap.size,0,none⟩) 0 0) 0 [] rfl (zdJ (zsY _ _) (Za _)) a 0 _ _ rfl (Y9) Ya Yh Yd ?_;intro v' w' hown hg hn2)
    have hlv:(ze (zo l)).length=0:=by rw[<- HT.out];exact HLn.out
    have hown':w'.ownsRow w.heap.size 109 1 v' (ze (zo l)).length ((ze (zo l)).map fun d:Nat=>Value.int .u32 (d:Int)):=by
     rw[hlv,<- HT.out]
     simpa using hown
    obtain⟨a',c',rfl,h1,h2,h3⟩:=zt.ownF hown' (zq _) Ya;have hbl:=((Zg _ w).alloc (Za _) _).grown hg Yd Xw;have HBl:=hid hbl;clear hown hown' hg hn2 hbl hlv;go_ret;exact⟨a',c',rfl,h1,h2,HBl.out,h3⟩
   | succ m=>
    obtain⟨b,off,rfl,hb,hcell⟩:=HU.out.pick (show m<l.length from Ya);have hd:dig l m≠0:=by rcases hnl with h|h;exact absurd h Ya;exact h
    have hne:((dig l m:Int)==0)=false:=bn0 Ya;have e1:((m+1:Nat):Int)-1=(m:Int):=Ya
    go_wp2_with (at_builtin;refine zZ rfl (.tmp 18) (.tmp 21) 49 48 rfl w.heap.size 109 (.int .u32 0) 1 4 Tryz.underlying49 Tryz.underlying48 Tryz.infoU32 rfl Ya (.slice (some ⟨w.heap.size,0,none⟩) 0 0) 0 [] rfl (zdJ (zsY _ _) (Za _)) _ (m+1) _ _ rfl (Y9) Ya Yh Yd ?_;intro v' w' hown hg hn2)
    have hlv:(ze (zo l)).length=m+1:=by rw[<- HT.out];exact HLn.out
    have hown':w'.ownsRow w.heap.size 109 1 v' (ze (zo l)).length ((ze (zo l)).map fun d:Nat=>Value.int .u32 (d:Int)):=by
     rw[hlv,<- HT.out]
     simpa using hown
    obtain⟨a',c',rfl,h1,h2,h3⟩:=zt.ownF hown' (zq _) Ya;have hbl:=((Zg _ w).alloc (Za _) _).grown hg Yd Xw;have HBl:=hid hbl;clear hown hown' hg hn2 hbl hlv;go_ret;exact⟨a',c',rfl,h1,h2,HBl.out,h3⟩
theorem zrT(x:Nat)(hx:x<18446744073709551616)(w:World):Calls Tryz.prog 77 #[.int .u64 (x:Int)] w (zpU w x):=by
 go_enter Tryz.func77,Tryz.ntmps77
 go_wp2_with fail
 have hU:zt (w.alloc (.cells #[.int .u32 ((x:Int)%4294967296),.int .u32 ((x:Int)/4294967296)] 109)) (some ⟨w.heap.size,0,none⟩) [x%4294967296,x/4294967296]:=TD;have hv:zo [x%4294967296,x/4294967296]=x:=JK;have hc:=zdv (l:=[x%4294967296,x/4294967296]) 2 (Za _) hU Yd;rw[hv]at hc
 refine hc.mono ?_
 rintro e w' ⟨a',c',rfl,h1,h2,h3,h4⟩;have HB:=hid (((Zg _ w).alloc (Za _) (.cells #[.int .u32 ((x:Int)%4294967296),.int .u32 ((x:Int)/4294967296)] 109)).trans (h3.mono Yd));clear hU hv hc h3;go_wp2;go_ret;exact⟨a',c',rfl,h1,h2,HB.out,h4.mono Yd⟩
def zhT(l m:List Nat)(k:Nat):List Nat:=(List.range k).map (zfQ (dig l) (dig m))
theorem zme(l m:List Nat)(k:Nat):zhT l m (k+1)=zhT l m k++[zfQ (dig l) (dig m) k]:=by
 unfold zhT;rw[Zad,ZaW];rfl
theorem ze3(l m:List Nat)(k:Nat):(zhT l m k).length=k:=by simp[zhT]
def zio(d:Nat):Value:=Value.int .u32 (d:Int)
theorem zqz{N:Nat}(h1:l.length<=N)(h2:m.length<=N):zo (zhT l m N++[zQ (dig l) (dig m) N])=zo l+zo m:=by
 have e:zo (zhT l m N++[zQ (dig l) (dig m) N])=zx (zfQ (dig l) (dig m)) N+zQ (dig l) (dig m) N*4294967296^N:=by
  unfold zo;rw[ZB,ze3,List.length_singleton];show zx _ N+dig (zhT l m N++[zQ (dig l) (dig m) N]) N*4294967296^N=_
  congr 1
  ·apply zac
   intro i hi;unfold dig;rw[Zf,Zx (by rw[ze3];exact hi)];unfold zhT;rw[ZV,ZaS hi];rfl
  ·congr 1
   unfold dig;rw[Zf,ZG (by rw[ze3];exact Za _),ze3,Nat.sub_self];rfl
 rw[e,zsi,zdi h1,zdi h2]
theorem zrQ(c d:Nat)(h:zt w a l)(g:zt w b m)(hx:zo l=x)(hy:zo m=y)(r1:l.length<=4194304)(r2:m.length<=4194304):
  Calls Tryz.prog 144 #[.slice a l.length c,.slice b m.length d] w (zpU w (x+y)):=by
 obtain⟨HL,HM,HA,HB,HX,HY⟩:=hd6 h.lim g.lim h g hx hy;clear h g hx hy;obtain⟨N,hN⟩:∃N:Nat,N=max l.length m.length:=⟨_,rfl⟩
 have HN:Hid (∀k:Nat,k<l.length∨k<m.length ↔ k<N):=fun k=>by omega
 have hN1:l.length<=N:=Ya;have hN2:m.length<=N:=Ya;have hN3:N<=4194304:=Ya;clear hN
 go_enter Tryz.func144,Tryz.ntmps144
 go_wp2
 go_loopw [5,6,7] (fun o cy i wr=>∃k:Nat,k<=N/\i=.int .i64 (k:Int)/\cy=.int .u64 (zQ (dig l) (dig m) k:Int)/\Hid (wr.ownsRow w.heap.size 109 1 o k ((zhT l m k).map zio))/\Hid (Below w.heap.size w wr)) (fun _ _ i _=>N-(intOf i).toNat)
 case atStart=>exact⟨0,Zs _,rfl,rfl,Zar _ _ _ _,Zg _ _⟩
 case round=>
  obtain⟨k,hk,rfl,rfl,hO,hBw⟩:=hrel;have hc1:=zeR (n:=k) (zD HL.out) (zD HM.out)
  by_cases hlt:k<N
  ·have b1:=zD HL.out k;have b2:=zD HM.out k;obtain⟨C1,C2⟩:=hd2 (fun(wc:World) (hb:Below w.heap.size w wc)=>zgs c k Ya (HA.out.below hb)) (fun(wc:World) (hb:Below w.heap.size w wc)=>zgs d k Ya (HB.out.below hb));have HSc:Hid ((zhT l m (k+1)).map zio=(zhT l m k).map zio++[.int .u32 (((zQ (dig l) (dig m) k+(dig l k+dig m k))%4294967296:Nat):Int)]):=by
    unfold Hid;rw[zme,ZaW,<- ZaT];rfl
   have HCn:Hid (zQ (dig l) (dig m) (k+1)=(zQ (dig l) (dig m) k+(dig l k+dig m k))/4294967296):=by unfold Hid;rw[<- ZaT];rfl
   generalize zQ (dig l) (dig m) k=cy at *;generalize dig l k=f at *;generalize dig m k=e at *;have hor:=(HN.out k).2 hlt
   by_cases hkl:k<l.length
   ·exact UK
   ·have hkm:=hor.resolve_left hkl;exact UK
  ·obtain rfl:k=N:=Ya;have hnn:=fun q=>hlt ((HN.out k).1 q)
   have hkl:¬ k<l.length:=fun q=>hnn (.inl q)
   have hkm:¬ k<m.length:=fun q=>hnn (.inr q)
   have HV:=hid (zqz hN1 hN2);have hLim:Hid (Lim (zhT l m k++[zQ (dig l) (dig m) k])):=by
    intro dd hd
    rcases Zay.1 hd with h|h
    ·unfold zhT at h;obtain⟨i,_,rfl⟩:=ZX.1 h;exact zh5 _ _ _
    ·have:=List.mem_singleton.1 h;omega
   have HLn:Hid ((zhT l m k++[zQ (dig l) (dig m) k]).length=k+1):=by unfold Hid;simp[ze3]
   have HMp:Hid ((zhT l m k++[zQ (dig l) (dig m) k]).map zio=(zhT l m k).map zio++[.int .u32 (zQ (dig l) (dig m) k:Int)]):=Vr;generalize zhT l m k++[zQ (dig l) (dig m) k]=R at *;generalize zQ (dig l) (dig m) k=cy at *;clear hnn;have hcm:((cy:Int))%4294967296=(cy:Int):=Ya
   go_wp2_with (at_builtin;refine zal rfl (.tmp 38) (.tmp 41) 48 rfl w.heap.size 109 (.int .u32 0) 4 Tryz.underlying48 Tryz.infoU32 rfl _ k _ rfl hO.out _ rfl rfl Ya Yh hBw.out.size ?_;intro v' w' hown hg hn)
   have hown':w'.ownsRow w.heap.size 109 1 v' R.length (R.map fun d:Nat=>Value.int .u32 (d:Int)):=by
    rw[HLn.out];have h:(R.map fun d:Nat=>Value.int .u32 (d:Int))=(zhT l m k).map zio++[.int .u32 (cy:Int)]:=HMp.out;rw[h];exact hown
   obtain⟨a',c',rfl,h1,h2⟩:=zt.own hown' hLim.out Ju;have HBl:=hid (hBw.out.grown hg hBw.out.size (fun k hk=>(hO.out.lt k hk).1));have hcall:=zdv c' h1 h2 Ju;rw[HV.out,HX.out,HY.out]at hcall;have HC:=hid hcall;clear hown hown' hg hn hcall h1 h2 hcm hO hBw
   go_wp2_with fail
   refine HC.out.mono ?_
   rintro e w3 ⟨a3,c3,rfl,h1,h2,h3,h4⟩;have HB3:=htr HBl h3;clear h3;go_wp2;go_ret;exact⟨a3,c3,rfl,h1,h2,HB3.out,h4.mono HBl.out.size⟩
def zjh(l m:List Nat)(k:Nat):List Nat:=(List.range k).map (zgG (dig l) (dig m))
theorem znj(l m:List Nat)(k:Nat):zjh l m (k+1)=zjh l m k++[zgG (dig l) (dig m) k]:=by
 unfold zjh;rw[Zad,ZaW];rfl
theorem zkc(l m:List Nat)(k:Nat):(zjh l m k).length=k:=by simp[zjh]
theorem zo1(hl:Lim l)(hm:Lim m)(k:Nat):Lim (zjh l m k):=by
 intro d hd;unfold zjh at hd;obtain⟨i,_,rfl⟩:=ZX.1 hd;exact zhV (zD hl i) (zD hm i)
theorem znr(l m:List Nat)(k:Nat):zo (zjh l m k)=zx (zgG (dig l) (dig m)) k:=by
 unfold zo;rw[zkc]
 apply zac
 intro i hi;unfold dig zjh;rw[Zf,ZV,ZaS hi];rfl
theorem zn1(h:zo m<4294967296^n):zx (dig m) n=zo m:=by
 rcases Zan n m.length with hlt|hge
 ·have e:=za9 (dig m) n (m.length-n);rw[show n+(m.length-n)=m.length from Ya]at e;have e2:zo m=zx (dig m) n+zx (fun i=>dig m (n+i)) (m.length-n)*4294967296^n:=e
  rcases ZaH (zx (fun i=>dig m (n+i)) (m.length-n))with h0|h0
  ·rw[h0,Zbo,ZW]at e2;exact e2.symm
  ·have h1:=Zag (4294967296^n) h0;omega
 ·exact zdi hge
theorem zqm(hl:Lim l)(hm:Lim m)(h:zo m<=zo l):zo (zjh l m l.length)=zo l-zo m:=by
 have h1:zo l<4294967296^l.length:=zbp (fun i _=>zD hl i);have h2:=zn1 (m:=m) (n:=l.length) Ya;rw[znr];have h3:=(zka (f:=dig l) (g:=dig m) (n:=l.length) (zD hl) (zD hm) (by rw[h2];exact h)).1;rw[h3,h2];rfl
def zpX(w:World)(x y:Nat)(e:Ending)(w':World):Prop:=
 (x<y/\e=.returned (.tuple #[.slice none 0 0,.int .i64 2])/\Below w.heap.size w w') ∨
 (y<=x/\Below w.heap.size w w'/\∃a c,e=.returned (.tuple #[.slice a (ze (x-y)).length c,.int .i64 0])/\(ze (x-y)).length<=c/\zt w' a (ze (x-y))/\Far w.heap.size a)
theorem zqf(c d:Nat)(h:zt w a l)(g:zt w b m)(hx:zo l=x)(hy:zo m=y)(r1:l.length<=4194304)(r2:m.length<=4194304):
  Calls Tryz.prog 146 #[.slice a l.length c,.slice b m.length d] w (zpX w x y):=by
 obtain⟨HL,HM,HA,HB,HCm⟩:=hd5 h.lim g.lim h g (zrP c d h g);rw[hx,hy]at HCm;obtain⟨HX,HY⟩:=hd2 hx hy;clear h g hx hy
 go_enter Tryz.func146,Tryz.ntmps146
 go_wp2_with fail
 refine HCm.out.mono ?_
 rintro e w1 ⟨rfl,rfl⟩
 by_cases hxy:x<y
 ·have hc:zdy x y= -1:=zfi hxy;go_wp2
  go_ret2
  exact .inl ⟨hxy,rfl,Zg _ _⟩
 ·have hyx:y<=x:=Ya;have hc:decide (zdy x y<0)=false:=by
   apply Zo
   unfold zdy;rw[Zh hxy]
   split<;>omega
  go_wp2;clear hc
  go_loopw [6,7,8] (fun o by' i wr=>∃k:Nat,k<=l.length/\i=.int .i64 (k:Int)/\by'=.int .u64 (zdK (dig l) (dig m) k:Int)/\Hid (wr.ownsRow w.heap.size 109 1 o k ((zjh l m k).map zio))/\Hid (Below w.heap.size w wr)) (fun _ _ i _=>l.length-(intOf i).toNat)
  case atStart=>exact⟨0,Zs _,rfl,rfl,Zar _ _ _ _,Zg _ _⟩
  case round=>
   obtain⟨k,hk,rfl,rfl,hO,hBw⟩:=hrel;have hc1:=zfa (dig l) (dig m) k
   by_cases hlt:k<l.length
   ·have b1:=zD HL.out k;have b2:=zD HM.out k;obtain⟨C1,C2⟩:=hd2 (fun(wc:World) (hb:Below w.heap.size w wc)=>zgs c k Ya (HA.out.below hb)) (fun(wc:World) (hb:Below w.heap.size w wc)=>zgs d k Ya (HB.out.below hb));have HSc:Hid ((zjh l m (k+1)).map zio=(zjh l m k).map zio++[.int .u32 ((zgG (dig l) (dig m) k:Nat):Int)]):=by
     unfold Hid;rw[znj,ZaW];rfl
    have HCn:Hid (zdK (dig l) (dig m) (k+1)=if dig l k<zdK (dig l) (dig m) k+dig m k then 1 else 0):=rfl;have HDg:Hid (zgG (dig l) (dig m) k=dig l k+4294967296*(if dig l k<zdK (dig l) (dig m) k+dig m k then 1 else 0)-(zdK (dig l) (dig m) k+dig m k)):=rfl;generalize zdK (dig l) (dig m) k=cy at *;generalize zgG (dig l) (dig m) k=dg at *;generalize dig l k=f at *;generalize dig m k=e at *
    by_cases hfe:f<e+cy
    ·have HD2:Hid (dg=f+4294967296-(e+cy)):=by unfold Hid;rw[HDg.out,Zq Ya];omega
     have HC2:Hid (zdK (dig l) (dig m) (k+1)=1):=by unfold Hid;rw[HCn.out,Zq Ya]
     clear HCn HDg
     go_wp2_with (first|(go_at_call 147;first|((with_reducible refine(C1.out _ hBw.out).mono ?_);rintro e' w' ⟨rfl,rfl⟩)|((with_reducible refine(C2.out _ hBw.out).mono ?_);rintro e' w' ⟨rfl,rfl⟩))|(at_builtin;refine zal rfl (.tmp 36) (.tmp 41) 48 rfl w.heap.size 109 (.int .u32 0) 4 Tryz.underlying48 Tryz.infoU32 rfl _ k _ rfl hO.out _ rfl rfl Ya Yh hBw.out.size ?_;intro v' w' hown hg hn))
     go_roundw
     case rel=>
      refine⟨k+1,hlt,Yg,by rw[HC2.out];rfl,?_,hBw.out.grown hg hBw.out.size (fun k hk=>(hO.out.lt k hk).1)⟩
      unfold Hid;rw[HSc.out];have hv:((dg:Nat):Int)=(f:Int)+4294967296-((e:Int)+(cy:Int)):=by have:=HD2.out;omega
      rw[hv];exact hown
     case measure=>simp[intOf];omega
    ·have HD2:Hid (dg=f-(e+cy)):=by unfold Hid;rw[HDg.out,Zh Ya];omega
     have HC2:Hid (zdK (dig l) (dig m) (k+1)=0):=by unfold Hid;rw[HCn.out,Zh Ya]
     clear HCn HDg
     go_wp2_with (first|(go_at_call 147;first|((with_reducible refine(C1.out _ hBw.out).mono ?_);rintro e' w' ⟨rfl,rfl⟩)|((with_reducible refine(C2.out _ hBw.out).mono ?_);rintro e' w' ⟨rfl,rfl⟩))|(at_builtin;refine zal rfl (.tmp 36) (.tmp 41) 48 rfl w.heap.size 109 (.int .u32 0) 4 Tryz.underlying48 Tryz.infoU32 rfl _ k _ rfl hO.out _ rfl rfl Ya Yh hBw.out.size ?_;intro v' w' hown hg hn))
     go_roundw
     case rel=>
      refine⟨k+1,hlt,Yg,by rw[HC2.out];rfl,?_,hBw.out.grown hg hBw.out.size (fun k hk=>(hO.out.lt k hk).1)⟩
      unfold Hid;rw[HSc.out];have hv:((dg:Nat):Int)=(f:Int)-((e:Int)+(cy:Int)):=by have:=HD2.out;omega
      rw[hv];exact hown
     case measure=>simp[intOf];omega
   ·obtain rfl:k=l.length:=Ya;have hV:zo (zjh l m l.length)=x-y:=by
     rw[zqm HL.out HM.out (by rw[HX.out,HY.out];exact hyx),HX.out,HY.out]
    have hLn:=zkc l m l.length;have hLi:=zo1 HL.out HM.out l.length;have hO2:wr.ownsRow w.heap.size 109 1 u6 (zjh l m l.length).length ((zjh l m l.length).map fun d:Nat=>Value.int .u32 (d:Int)):=by
     rw[hLn];exact hO.out
    obtain⟨a',c',rfl,h1,h2⟩:=zt.own hO2 hLi Ya;have hcall:=zdv c' h1 h2 Ya;rw[hV]at hcall;have HC:=hid hcall;rw[hLn]at HC⊢;clear hO hO2 hcall h1 h2 hV hLn hLi
    go_wp2_with fail
    refine HC.out.mono ?_
    rintro e w3 ⟨a3,c3,rfl,h1,h2,h3,h4⟩;have HB3:=htr hBw h3;clear h3;go_wp2
    go_ret2
    exact .inr ⟨hyx,HB3.out,a3,c3,rfl,h1,h2,h4.mono hBw.out.size⟩
