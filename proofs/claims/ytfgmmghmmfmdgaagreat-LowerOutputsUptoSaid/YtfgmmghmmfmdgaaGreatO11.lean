/-
  Contracts: AppS, RefB, RefC, RefD.
-/
import Derived.Deep.RegionHeld3
import Derived.Deep.RegionLaw
import Derived.OwnWalk
import Derived.Test.YtfgmmghmmfmdgaaGreatO4
import Derived.Test.YtfgmmghmmfmdgaaGreatO0
set_option linter.all false
set_option maxRecDepth 100000
set_option maxHeartbeats 3200000
namespace Go.Proofs.YtfgmmghmmfmdgaaGreat
open Go.RowKit
open Go.Lib (hid)
variable {P:Prop} {w:World} {m l:List Nat} {size n x base y:Nat} {b a:Option Addr}
theorem UR(h:P:=by
 clear hor
 go_wp2_with (first|(go_at_call 147;first|((with_reducible refine(C1.out _ hBw.out).mono ?_);rintro e' w' ⟨rfl,rfl⟩)|((with_reducible refine(C2.out _ hBw.out).mono ?_);rintro e' w' ⟨rfl,rfl⟩))|(at_builtin;refine zao rfl (.tmp 31) (.tmp 34) 48 rfl w.heap.size 109 (.int .u32 0) 4 Tryz.underlying48 Tryz.infoU32 rfl _ k _ rfl hO.out _ rfl rfl Ya Yf hBw.out.size ?_;intro v' w' hown hg hn))
 go_roundw
 case rel=>
  refine⟨k+1,hlt,Yg,by rw[HCn.out];go_num,?_,hBw.out.grown hg hBw.out.size (fun k hk=>(hO.out.lt k hk).1)⟩
  unfold Hid;rw[HSc.out]
  simpa using hown
 case measure=>simp[intOf];omega
):P:=h
theorem Iz(h:P:=by rw[Array.getElem?_push,Zm rfl]):P:=h
structure zho (w:World) (A:Option Addr) (m size:Nat) (news:List Value):Prop where
 len:news.length=m*size
 one:∀u∈news,u.oneCell'=true
 at_:0<m->∃b off,A=some ⟨b,off,none⟩/\b<w.heap.size/\∀j u,news[j]? =some u->w.cell? ⟨b,off+j,none⟩=some u
theorem zho.below{w':World}{A:Option Addr}{m:Nat}{news:List Value}(h:zho w A m size news)(hb:Below w.heap.size w w'):zho w' A m size news:=
 ⟨h.len,h.one,fun hm=>let ⟨b,off,e,hl,hc⟩:=h.at_ hm;⟨b,off,e,Zb hl hb.size,fun j u hj=>(hb.cell hl).trans (hc j u hj)⟩⟩
theorem zhr{P:Program}{w:World}{base:Nat}{t ty e:TypeId}{z:Value}{size bytes:Nat}(ht:P.underlying t=some (.slice e))(hinfo:(P.info? e).map (fun i=>(i.zero,i.size,i.bytes))=some (some z,size,bytes))(hz1:z.cells.size=size)(hsz:0<size)
 {v:Value}{n:Nat}{xs:List Value}(hown:w.ownsRow base e size v n xs){A:Option Addr}{m c:Nat}{news:List Value}(hsrc:zho w A m size news)
 (hbytes:(n+m)*bytes<=140737488355328)(h63:n+m<=maxLen)(hbase:base<=w.heap.size):
  ∃v' w',(Builtin.append_ #[t,t] ty #[v,.slice A m c]).run P w=.ok v' w'/\w'.ownsRow base e size v' (n+m) (xs++news)/\w.grownBy w' v.ownBlock/\zi7 w v v':=by
 obtain⟨i,hi,hz,hsize,hby⟩:=info_parts hinfo;subst hsize;have hsmall:n+m<=9223372036854775807:=XG
 rcases ZaI m with h0|h0
 ·subst h0;have hnil:news=[]:=Zy (by rw[hsrc.len];simp);subst hnil
  cases A with
  | some ad=>
   rcases hown.2 with⟨rfl,rfl⟩|⟨g,cap,cur,rfl,hbg,hg,hnc,hcm,hcs,htake⟩
   ·obtain⟨v',w',hr,h2,h3,h4⟩:=run_append_own (P:=P) w base t ty e i z i.size bytes ht hi hz rfl hby hz1 hsz _ 0 xs hown ad 0 c [] Yc JZ V3 h63 hbytes hbase;have hv:=h4.2 ⟨rfl,rfl⟩;subst hv;exact⟨_,w',hr,h2,h3,.inl rfl⟩
   ·obtain⟨v',w',hr,h2,h3,_⟩:=run_append_own (P:=P) w base t ty e i z i.size bytes ht hi hz rfl hby hz1 hsz _ n xs hown ad 0 c [] Yc JZ V3 h63 hbytes hbase;have hr':=run_append_room (P:=P) w t ty e i ht hi g n cap cur hg ad 0 c [] Yc JZ V3 Ya (by rw[hcs];simp;exact Zl _ hnc);have hrr:=hr;rw[hr']at hrr;cases hrr;exact⟨_,_,hr,h2,h3,.inl rfl⟩
  | none=>
   refine⟨v,w,?_,VK,⟨rfl,rfl,rfl,Za _,fun _ _ _=>rfl⟩,.inl rfl⟩
   rcases hown.2 with⟨rfl,rfl⟩|⟨g,cap,cur,rfl,_,_,hnc,_⟩
   ·simp[Builtin.append_,run_underlying ht,sizeOf,typeInfo,hi,Builtin.lenOf,Builtin.firstCells]
   ·simp[Builtin.append_,run_underlying ht,sizeOf,typeInfo,hi,Builtin.lenOf,Builtin.firstCells,hnc,storeCells]
 ·obtain⟨b,off,rfl,_,hc⟩:=hsrc.at_ h0;exact zbM w base t ty e i z i.size bytes ht hi hz rfl hby hz1 hsz v n xs hown ⟨b,off,none⟩ m c news hsrc.len
   (by intro j u hj;rw[Zaq];exact hc j u hj) hsrc.one h0 h63 hbytes hbase
theorem znu{P:Program}{t tx ty e:TypeId}{c:Nat}{x:Value}(ht:P.underlying t=some (.slice e))(htx:P.underlying tx=some (.slice e)):
  (Builtin.append_ #[t,tx] ty #[.slice b n c,x]).run P w=(Builtin.append_ #[t,t] ty #[.slice b n c,x]).run P w:=by
 simp[Builtin.append_,run_underlying ht,run_underlying htx]
theorem zaa{P:Program}{ops:Array Oper}{rest:List Oper}{o:Oper}{a:Act}{Q:Exit->Act->World->Prop}(hgd:o.guard=none)(s x:Operand)(t tx:TypeId)
 (ho:o.op=.call {callee:=.builtin .append,args:=#[s,x],argTypes:=#[t,tx]})
 (base:Nat)(e:TypeId)(z:Value)(size bytes:Nat)(ht:P.underlying t=some (.slice e))(htx:P.underlying tx=some (.slice e))(hinfo:(P.info? e).map (fun i=>(i.zero,i.size,i.bytes))=some (some z,size,bytes))(hz1:z.cells.size=size)(hsz:0<size)
 (v:Value)(n:Nat)(xs:List Value)(hs:a.eval s=v)(hown:w.ownsRow base e size v n xs)(A:Option Addr)(m c:Nat)(news:List Value)
 (hx:a.eval x=.slice A m c)(hsrc:zho w A m size news)
 (hbytes:(n+m)*bytes<=140737488355328)(h63:n+m<=maxLen)(hbase:base<=w.heap.size)
 (h:∀v' w',w'.ownsRow base e size v' (n+m) (xs++news)->w.grownBy w' v.ownBlock->zi7 w v v'->wpList P ops Q rest (a.put o.dst v') w'):wpList P ops Q (o::rest) a w:=by
 refine wpList_plain hgd fun K hK=>?_
 obtain⟨v',w',hr,h2,h3,h4⟩:=zhr (ty:=o.type) (c:=c) ht hinfo hz1 hsz hown hsrc hbytes h63 hbase;have hv:∃b k c,v=.slice b k c:=by
  rcases hown.2 with⟨e,_⟩|⟨g,cap,_,e,_⟩
  ·exact⟨_,_,_,e⟩
  ·exact⟨_,_,_,e⟩
 obtain⟨b,k,c',rfl⟩:=hv;rw[<- znu ht htx]at hr;unfold Oper.wp execOp;simp only[ho,resolve,invoke,builtin,Sem.run_bind,Sem.run_pure,Result.andThen_ok,List.map_toArray,Zbf,List.map_nil,hs,hx,hr];exact hK _ _ (h v' w' h2 h3 h4)
theorem zea{T g:Nat}(h:w.heap[g]? =some (.cells #[] T (0,0)))(hb:base<=g):w.ownsRow base T size (.slice (some ⟨g,0,none⟩) 0 0) 0 []:=
 ⟨Yc,.inr ⟨g,0,#[],rfl,hb,h,Za _,Yf,Yc,Yc⟩⟩
theorem zw.src(h:zw w a l):zho w a l.length 1 (l.map fun d:Nat=>Value.int .u32 (d:Int)):=by
 refine⟨Yc,?_,fun hp=>?_⟩
 ·intro u hu;obtain⟨x,_,rfl⟩:=ZP.1 hu;rfl
 ·rcases h.row with rfl|⟨b,off,rfl,hb,hc⟩
  ·simp at hp
  ·refine⟨b,off,rfl,hb,fun j u hj=>?_⟩
   rw[ZN]at hj;obtain⟨d,hd,rfl⟩:=Option.map_eq_some_iff.1 hj;exact hc j d hd
def Far(n:Nat)(a:Option Addr):Prop:=∀p,a=some p->n<=p.block
theorem Far.mono{m:Nat}(h:Far n a)(hm:m<=n):Far m a:=fun p e=>Zi hm (h p e)
theorem Far.none(n:Nat):Far n none:=fun _ e=>by cases e
theorem zw.ownF{E:Nat}{v:Value}(h:w.ownsRow base E 1 v l.length (l.map fun d:Nat=>Value.int .u32 (d:Int)))(hl:Lim l)(hn:l.length<=9223372036854775807):
  ∃a c,v=.slice a l.length c/\l.length<=c/\zw w a l/\Far base a:=by
 obtain⟨a,c,h1,h2,h3⟩:=zw.own h hl hn
 refine⟨a,c,h1,h2,h3,?_⟩
 rcases h.2 with⟨rfl,hz⟩|⟨g,cap,cur,rfl,hb,_⟩
 ·injection h1 with e1
  subst e1;exact Far.none _
 ·injection h1 with e1
  subst e1;intro p e;cases e;exact hb
def zrm(w:World)(v:Nat)(e:Ending)(w':World):Prop:=∃a c,e=.returned (.slice a (za v).length c)/\(za v).length<=c/\zw w' a (za v)/\Below w.heap.size w w'/\Far w.heap.size a
theorem zt7(w:World)(o:Obj):(w.alloc o).heap[w.heap.size]? =some o:=by
 show(w.heap.push o)[w.heap.size]? =_
 exact Iz
theorem zdL{w:World}{a:Option Addr}{l:List Nat}(c:Nat)(hc:l.length<=c)(h:zw w a l)(hr:l.length*4<=140737488355328):
  Calls Tryz.prog 107 #[.slice a l.length c] w (zrm w (zo l)):=by
 have hlen:=h.len;obtain⟨HU,HL,HCap⟩:=hd3 h h.lim hc;clear h
 go_enter Tryz.func107,Tryz.ntmps107
 go_wp2
 go_loop [3] (fun i=>∃n:Nat,n<=l.length/\i=.int .i64 n/\Hid (∀i,n<=i->i<l.length->dig l i=0)) (fun i=>(intOf i).toNat)
 case atStart=>exact⟨l.length,Za _,rfl,fun i h1 h2=>Ya⟩
 case round=>
  obtain⟨n,hn,rfl,hz⟩:=hrel
  by_cases hgo:∃m,n=m+1/\dig l m=0
  ·obtain⟨m,rfl,hd⟩:=hgo;obtain⟨b,off,rfl,hb,hcell⟩:=HU.out.pick (show m<l.length from Ya);have e1:((m+1:Nat):Int)-1=(m:Int):=Ya;rw[hd]at hcell;have HZ2:Hid (∀i,m<=i->i<l.length->dig l i=0):=fun i h1 h2=>by
    by_cases hi:i=m
    ·rw[hi];exact hd
    ·exact hz.out i Ya h2
   clear hd;go_wp2;go_round
   case rel=>exact⟨m,Ya,Yg,HZ2⟩
   case measure=>simp[intOf]
  ·have hnl:n=0∨dig l (n-1)≠0:=by
    rcases ZaI n with h0|h0
    ·exact .inl h0
    ·exact .inr fun e=>hgo ⟨n-1,Ya,e⟩
   obtain⟨HT,HS⟩:=hd2 (zfq HL.out hn hz.out hnl) ((HU.out.take n).src);have hln:(l.take n).length=n:=Yi;have HLn:=hid hln;clear hgo hz hln
   cases n with
   | zero=>
    go_wp2_with (at_builtin;refine zaa rfl (.tmp 18) (.tmp 21) 49 48 rfl w.heap.size 109 (.int .u32 0) 1 4 Tryz.underlying49 Tryz.underlying48 Tryz.infoU32 rfl Ya (.slice (some ⟨w.heap.size,0,none⟩) 0 0) 0 [] rfl (zea (zt7 _ _) (Za _)) a 0 _ _ rfl (Y9) Ya Yf Yc ?_;intro v' w' hown hg hn2)
    have hlv:(za (zo l)).length=0:=by rw[<- HT.out];exact HLn.out
    have hown':w'.ownsRow w.heap.size 109 1 v' (za (zo l)).length ((za (zo l)).map fun d:Nat=>Value.int .u32 (d:Int)):=by
     rw[hlv,<- HT.out]
     simpa using hown
    obtain⟨a',c',rfl,h1,h2,h3⟩:=zw.ownF hown' (zv _) Ya;have hbl:=((Ze _ w).alloc (Za _) _).grown hg Yc Xt;have HBl:=hid hbl;clear hown hown' hg hn2 hbl hlv;go_ret;exact⟨a',c',rfl,h1,h2,HBl.out,h3⟩
   | succ m=>
    obtain⟨b,off,rfl,hb,hcell⟩:=HU.out.pick (show m<l.length from Ya);have hd:dig l m≠0:=by rcases hnl with h|h;exact absurd h Ya;exact h
    have hne:((dig l m:Int)==0)=false:=bn0 Ya;have e1:((m+1:Nat):Int)-1=(m:Int):=Ya
    go_wp2_with (at_builtin;refine zaa rfl (.tmp 18) (.tmp 21) 49 48 rfl w.heap.size 109 (.int .u32 0) 1 4 Tryz.underlying49 Tryz.underlying48 Tryz.infoU32 rfl Ya (.slice (some ⟨w.heap.size,0,none⟩) 0 0) 0 [] rfl (zea (zt7 _ _) (Za _)) _ (m+1) _ _ rfl (Y9) Ya Yf Yc ?_;intro v' w' hown hg hn2)
    have hlv:(za (zo l)).length=m+1:=by rw[<- HT.out];exact HLn.out
    have hown':w'.ownsRow w.heap.size 109 1 v' (za (zo l)).length ((za (zo l)).map fun d:Nat=>Value.int .u32 (d:Int)):=by
     rw[hlv,<- HT.out]
     simpa using hown
    obtain⟨a',c',rfl,h1,h2,h3⟩:=zw.ownF hown' (zv _) Ya;have hbl:=((Ze _ w).alloc (Za _) _).grown hg Yc Xt;have HBl:=hid hbl;clear hown hown' hg hn2 hbl hlv;go_ret;exact⟨a',c',rfl,h1,h2,HBl.out,h3⟩
theorem zs5(x:Nat)(hx:x<18446744073709551616)(w:World):Calls Tryz.prog 77 #[.int .u64 (x:Int)] w (zrm w x):=by
 go_enter Tryz.func77,Tryz.ntmps77
 go_wp2_with fail
 have hU:zw (w.alloc (.cells #[.int .u32 ((x:Int)%4294967296),.int .u32 ((x:Int)/4294967296)] 109)) (some ⟨w.heap.size,0,none⟩) [x%4294967296,x/4294967296]:=TK;have hv:zo [x%4294967296,x/4294967296]=x:=JS;have hc:=zdL (l:=[x%4294967296,x/4294967296]) 2 (Za _) hU Yc;rw[hv]at hc
 refine hc.mono ?_
 rintro e w' ⟨a',c',rfl,h1,h2,h3,h4⟩;have HB:=hid (((Ze _ w).alloc (Za _) (.cells #[.int .u32 ((x:Int)%4294967296),.int .u32 ((x:Int)/4294967296)] 109)).trans (h3.mono Yc));clear hU hv hc h3;go_wp2;go_ret;exact⟨a',c',rfl,h1,h2,HB.out,h4.mono Yc⟩
def zit(l m:List Nat)(k:Nat):List Nat:=(List.range k).map (zf3 (dig l) (dig m))
theorem znj(l m:List Nat)(k:Nat):zit l m (k+1)=zit l m k++[zf3 (dig l) (dig m) k]:=by
 unfold zit;rw[Zab,Zay];rfl
theorem zfj(l m:List Nat)(k:Nat):(zit l m k).length=k:=by simp[zit]
def ziZ(d:Nat):Value:=Value.int .u32 (d:Int)
theorem zq7{N:Nat}(h1:l.length<=N)(h2:m.length<=N):zo (zit l m N++[zV (dig l) (dig m) N])=zo l+zo m:=by
 have e:zo (zit l m N++[zV (dig l) (dig m) N])=zA (zf3 (dig l) (dig m)) N+zV (dig l) (dig m) N*4294967296^N:=by
  unfold zo;rw[ZE,zfj,List.length_singleton];show zA _ N+dig (zit l m N++[zV (dig l) (dig m) N]) N*4294967296^N=_
  congr 1
  ·apply zaj
   intro i hi;unfold dig;rw[Zd,Zz (by rw[zfj];exact hi)];unfold zit;rw[ZN,Zam hi];rfl
  ·congr 1
   unfold dig;rw[Zd,ZI (by rw[zfj];exact Za _),zfj,Nat.sub_self];rfl
 rw[e,ztQ,zdH h1,zdH h2]
theorem zss(c d:Nat)(h:zw w a l)(g:zw w b m)(hx:zo l=x)(hy:zo m=y)(r1:l.length<=4194304)(r2:m.length<=4194304):
  Calls Tryz.prog 144 #[.slice a l.length c,.slice b m.length d] w (zrm w (x+y)):=by
 obtain⟨HL,HM,HA,HB,HX,HY⟩:=hd6 h.lim g.lim h g hx hy;clear h g hx hy;obtain⟨N,hN⟩:∃N:Nat,N=max l.length m.length:=⟨_,rfl⟩
 have HN:Hid (∀k:Nat,k<l.length∨k<m.length ↔ k<N):=fun k=>by omega
 have hN1:l.length<=N:=Ya;have hN2:m.length<=N:=Ya;have hN3:N<=4194304:=Ya;clear hN
 go_enter Tryz.func144,Tryz.ntmps144
 go_wp2
 go_loopw [5,6,7] (fun o cy i wr=>∃k:Nat,k<=N/\i=.int .i64 (k:Int)/\cy=.int .u64 (zV (dig l) (dig m) k:Int)/\Hid (wr.ownsRow w.heap.size 109 1 o k ((zit l m k).map ziZ))/\Hid (Below w.heap.size w wr)) (fun _ _ i _=>N-(intOf i).toNat)
 case atStart=>exact⟨0,Zs _,rfl,rfl,Zaw _ _ _ _,Ze _ _⟩
 case round=>
  obtain⟨k,hk,rfl,rfl,hO,hBw⟩:=hrel;have hc1:=ze2 (n:=k) (zJ HL.out) (zJ HM.out)
  by_cases hlt:k<N
  ·have b1:=zJ HL.out k;have b2:=zJ HM.out k;obtain⟨C1,C2⟩:=hd2 (fun(wc:World) (hb:Below w.heap.size w wc)=>zgF c k Ya (HA.out.below hb)) (fun(wc:World) (hb:Below w.heap.size w wc)=>zgF d k Ya (HB.out.below hb));have HSc:Hid ((zit l m (k+1)).map ziZ=(zit l m k).map ziZ++[.int .u32 (((zV (dig l) (dig m) k+(dig l k+dig m k))%4294967296:Nat):Int)]):=by
    unfold Hid;rw[znj,Zay,<- Zat];rfl
   have HCn:Hid (zV (dig l) (dig m) (k+1)=(zV (dig l) (dig m) k+(dig l k+dig m k))/4294967296):=by unfold Hid;rw[<- Zat];rfl
   generalize zV (dig l) (dig m) k=cy at *;generalize dig l k=f at *;generalize dig m k=e at *;have hor:=(HN.out k).2 hlt
   by_cases hkl:k<l.length
   ·exact UR
   ·have hkm:=hor.resolve_left hkl;exact UR
  ·obtain rfl:k=N:=Ya;have hnn:=fun q=>hlt ((HN.out k).1 q)
   have hkl:¬ k<l.length:=fun q=>hnn (.inl q)
   have hkm:¬ k<m.length:=fun q=>hnn (.inr q)
   have HV:=hid (zq7 hN1 hN2);have hLim:Hid (Lim (zit l m k++[zV (dig l) (dig m) k])):=by
    intro dd hd
    rcases Zar.1 hd with h|h
    ·unfold zit at h;obtain⟨i,_,rfl⟩:=ZP.1 h;exact ziz _ _ _
    ·have:=List.mem_singleton.1 h;omega
   have HLn:Hid ((zit l m k++[zV (dig l) (dig m) k]).length=k+1):=by unfold Hid;simp[zfj]
   have HMp:Hid ((zit l m k++[zV (dig l) (dig m) k]).map ziZ=(zit l m k).map ziZ++[.int .u32 (zV (dig l) (dig m) k:Int)]):=V4;generalize zit l m k++[zV (dig l) (dig m) k]=R at *;generalize zV (dig l) (dig m) k=cy at *;clear hnn;have hcm:((cy:Int))%4294967296=(cy:Int):=Ya
   go_wp2_with (at_builtin;refine zao rfl (.tmp 38) (.tmp 41) 48 rfl w.heap.size 109 (.int .u32 0) 4 Tryz.underlying48 Tryz.infoU32 rfl _ k _ rfl hO.out _ rfl rfl Ya Yf hBw.out.size ?_;intro v' w' hown hg hn)
   have hown':w'.ownsRow w.heap.size 109 1 v' R.length (R.map fun d:Nat=>Value.int .u32 (d:Int)):=by
    rw[HLn.out];have h:(R.map fun d:Nat=>Value.int .u32 (d:Int))=(zit l m k).map ziZ++[.int .u32 (cy:Int)]:=HMp.out;rw[h];exact hown
   obtain⟨a',c',rfl,h1,h2⟩:=zw.own hown' hLim.out JD;have HBl:=hid (hBw.out.grown hg hBw.out.size (fun k hk=>(hO.out.lt k hk).1));have hcall:=zdL c' h1 h2 JD;rw[HV.out,HX.out,HY.out]at hcall;have HC:=hid hcall;clear hown hown' hg hn hcall h1 h2 hcm hO hBw
   go_wp2_with fail
   refine HC.out.mono ?_
   rintro e w3 ⟨a3,c3,rfl,h1,h2,h3,h4⟩;have HB3:=htr HBl h3;clear h3;go_wp2;go_ret;exact⟨a3,c3,rfl,h1,h2,HB3.out,h4.mono HBl.out.size⟩
def zjT(l m:List Nat)(k:Nat):List Nat:=(List.range k).map (zgz (dig l) (dig m))
theorem zm2(l m:List Nat)(k:Nat):zjT l m (k+1)=zjT l m k++[zgz (dig l) (dig m) k]:=by
 unfold zjT;rw[Zab,Zay];rfl
theorem zkZ(l m:List Nat)(k:Nat):(zjT l m k).length=k:=by simp[zjT]
theorem zpB(hl:Lim l)(hm:Lim m)(k:Nat):Lim (zjT l m k):=by
 intro d hd;unfold zjT at hd;obtain⟨i,_,rfl⟩:=ZP.1 hd;exact ziK (zJ hl i) (zJ hm i)
theorem zog(l m:List Nat)(k:Nat):zo (zjT l m k)=zA (zgz (dig l) (dig m)) k:=by
 unfold zo;rw[zkZ]
 apply zaj
 intro i hi;unfold dig zjT;rw[Zd,ZN,Zam hi];rfl
theorem zpw(h:zo m<4294967296^n):zA (dig m) n=zo m:=by
 rcases ZaC n m.length with hlt|hge
 ·have e:=zbh (dig m) n (m.length-n);rw[show n+(m.length-n)=m.length from Ya]at e;have e2:zo m=zA (dig m) n+zA (fun i=>dig m (n+i)) (m.length-n)*4294967296^n:=e
  rcases ZaI (zA (fun i=>dig m (n+i)) (m.length-n))with h0|h0
  ·rw[h0,Zbe,ZU]at e2;exact e2.symm
  ·have h1:=Zad (4294967296^n) h0;omega
 ·exact zdH hge
theorem zro(hl:Lim l)(hm:Lim m)(h:zo m<=zo l):zo (zjT l m l.length)=zo l-zo m:=by
 have h1:zo l<4294967296^l.length:=zbA (fun i _=>zJ hl i);have h2:=zpw (m:=m) (n:=l.length) Ya;rw[zog];have h3:=(zlm (f:=dig l) (g:=dig m) (n:=l.length) (zJ hl) (zJ hm) (by rw[h2];exact h)).1;rw[h3,h2];rfl
def zrM(w:World)(x y:Nat)(e:Ending)(w':World):Prop:=
 (x<y/\e=.returned (.tuple #[.slice none 0 0,.int .i64 2])/\Below w.heap.size w w') ∨
 (y<=x/\Below w.heap.size w w'/\∃a c,e=.returned (.tuple #[.slice a (za (x-y)).length c,.int .i64 0])/\(za (x-y)).length<=c/\zw w' a (za (x-y))/\Far w.heap.size a)
theorem zq1(c d:Nat)(h:zw w a l)(g:zw w b m)(hx:zo l=x)(hy:zo m=y)(r1:l.length<=4194304)(r2:m.length<=4194304):
  Calls Tryz.prog 146 #[.slice a l.length c,.slice b m.length d] w (zrM w x y):=by
 obtain⟨HL,HM,HA,HB,HCm⟩:=hd5 h.lim g.lim h g (zsg c d h g);rw[hx,hy]at HCm;obtain⟨HX,HY⟩:=hd2 hx hy;clear h g hx hy
 go_enter Tryz.func146,Tryz.ntmps146
 go_wp2_with fail
 refine HCm.out.mono ?_
 rintro e w1 ⟨rfl,rfl⟩
 by_cases hxy:x<y
 ·have hc:zdR x y= -1:=zfG hxy;go_wp2
  go_ret2
  exact .inl ⟨hxy,rfl,Ze _ _⟩
 ·have hyx:y<=x:=Ya;have hc:decide (zdR x y<0)=false:=by
   apply Zj
   unfold zdR;rw[Zg hxy]
   split<;>omega
  go_wp2;clear hc
  go_loopw [6,7,8] (fun o by' i wr=>∃k:Nat,k<=l.length/\i=.int .i64 (k:Int)/\by'=.int .u64 (zd2 (dig l) (dig m) k:Int)/\Hid (wr.ownsRow w.heap.size 109 1 o k ((zjT l m k).map ziZ))/\Hid (Below w.heap.size w wr)) (fun _ _ i _=>l.length-(intOf i).toNat)
  case atStart=>exact⟨0,Zs _,rfl,rfl,Zaw _ _ _ _,Ze _ _⟩
  case round=>
   obtain⟨k,hk,rfl,rfl,hO,hBw⟩:=hrel;have hc1:=zfr (dig l) (dig m) k
   by_cases hlt:k<l.length
   ·have b1:=zJ HL.out k;have b2:=zJ HM.out k;obtain⟨C1,C2⟩:=hd2 (fun(wc:World) (hb:Below w.heap.size w wc)=>zgF c k Ya (HA.out.below hb)) (fun(wc:World) (hb:Below w.heap.size w wc)=>zgF d k Ya (HB.out.below hb));have HSc:Hid ((zjT l m (k+1)).map ziZ=(zjT l m k).map ziZ++[.int .u32 ((zgz (dig l) (dig m) k:Nat):Int)]):=by
     unfold Hid;rw[zm2,Zay];rfl
    have HCn:Hid (zd2 (dig l) (dig m) (k+1)=if dig l k<zd2 (dig l) (dig m) k+dig m k then 1 else 0):=rfl;have HDg:Hid (zgz (dig l) (dig m) k=dig l k+4294967296*(if dig l k<zd2 (dig l) (dig m) k+dig m k then 1 else 0)-(zd2 (dig l) (dig m) k+dig m k)):=rfl;generalize zd2 (dig l) (dig m) k=cy at *;generalize zgz (dig l) (dig m) k=dg at *;generalize dig l k=f at *;generalize dig m k=e at *
    by_cases hfe:f<e+cy
    ·have HD2:Hid (dg=f+4294967296-(e+cy)):=by unfold Hid;rw[HDg.out,Zm Ya];omega
     have HC2:Hid (zd2 (dig l) (dig m) (k+1)=1):=by unfold Hid;rw[HCn.out,Zm Ya]
     clear HCn HDg
     go_wp2_with (first|(go_at_call 147;first|((with_reducible refine(C1.out _ hBw.out).mono ?_);rintro e' w' ⟨rfl,rfl⟩)|((with_reducible refine(C2.out _ hBw.out).mono ?_);rintro e' w' ⟨rfl,rfl⟩))|(at_builtin;refine zao rfl (.tmp 36) (.tmp 41) 48 rfl w.heap.size 109 (.int .u32 0) 4 Tryz.underlying48 Tryz.infoU32 rfl _ k _ rfl hO.out _ rfl rfl Ya Yf hBw.out.size ?_;intro v' w' hown hg hn))
     go_roundw
     case rel=>
      refine⟨k+1,hlt,Yg,by rw[HC2.out];rfl,?_,hBw.out.grown hg hBw.out.size (fun k hk=>(hO.out.lt k hk).1)⟩
      unfold Hid;rw[HSc.out];have hv:((dg:Nat):Int)=(f:Int)+4294967296-((e:Int)+(cy:Int)):=by have:=HD2.out;omega
      rw[hv];exact hown
     case measure=>simp[intOf];omega
    ·have HD2:Hid (dg=f-(e+cy)):=by unfold Hid;rw[HDg.out,Zg Ya];omega
     have HC2:Hid (zd2 (dig l) (dig m) (k+1)=0):=by unfold Hid;rw[HCn.out,Zg Ya]
     clear HCn HDg
     go_wp2_with (first|(go_at_call 147;first|((with_reducible refine(C1.out _ hBw.out).mono ?_);rintro e' w' ⟨rfl,rfl⟩)|((with_reducible refine(C2.out _ hBw.out).mono ?_);rintro e' w' ⟨rfl,rfl⟩))|(at_builtin;refine zao rfl (.tmp 36) (.tmp 41) 48 rfl w.heap.size 109 (.int .u32 0) 4 Tryz.underlying48 Tryz.infoU32 rfl _ k _ rfl hO.out _ rfl rfl Ya Yf hBw.out.size ?_;intro v' w' hown hg hn))
     go_roundw
     case rel=>
      refine⟨k+1,hlt,Yg,by rw[HC2.out];rfl,?_,hBw.out.grown hg hBw.out.size (fun k hk=>(hO.out.lt k hk).1)⟩
      unfold Hid;rw[HSc.out];have hv:((dg:Nat):Int)=(f:Int)-((e:Int)+(cy:Int)):=by have:=HD2.out;omega
      rw[hv];exact hown
     case measure=>simp[intOf];omega
   ·obtain rfl:k=l.length:=Ya;have hV:zo (zjT l m l.length)=x-y:=by
     rw[zro HL.out HM.out (by rw[HX.out,HY.out];exact hyx),HX.out,HY.out]
    have hLn:=zkZ l m l.length;have hLi:=zpB HL.out HM.out l.length;have hO2:wr.ownsRow w.heap.size 109 1 u6 (zjT l m l.length).length ((zjT l m l.length).map fun d:Nat=>Value.int .u32 (d:Int)):=by
     rw[hLn];exact hO.out
    obtain⟨a',c',rfl,h1,h2⟩:=zw.own hO2 hLi Ya;have hcall:=zdL c' h1 h2 Ya;rw[hV]at hcall;have HC:=hid hcall;rw[hLn]at HC⊢;clear hO hO2 hcall h1 h2 hV hLn hLi
    go_wp2_with fail
    refine HC.out.mono ?_
    rintro e w3 ⟨a3,c3,rfl,h1,h2,h3,h4⟩;have HB3:=htr hBw h3;clear h3;go_wp2
    go_ret2
    exact .inr ⟨hyx,HB3.out,a3,c3,rfl,h1,h2,h4.mono hBw.out.size⟩
