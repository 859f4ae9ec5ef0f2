/-
  Contracts: OwnR, LinA, RatG.
-/
import Derived.Test.YtfgmmghmmfmdgaaGreatO13
import Derived.Test.YtfgmmghmmfmdgaaGreatO0
set_option linter.all false
set_option maxRecDepth 100000
set_option maxHeartbeats 3200000
namespace Go.Proofs.YtfgmmghmmfmdgaaGreat
open Go.RowKit
open Go.Lib (hid)
variable {P:Prop} {v:Value} {w w':World} {g a l f out b:List (Nat×Rat)} {T n u base lo:Nat} {x:zaf} {L:List zaf} {k q:Rat} {xs:List Value}
theorem To(h:P:=by
 intro u hu;unfold Builtin.zeroCells at hu;obtain⟨i,hi,rfl⟩:=Array.mem_map.1 hu;rw[Array.mem_range]at hi;have hp:0<z.cells.size:=by
  rcases ZaI z.cells.size with h0|h0
  ·rw[h0]at hi;omega
  ·exact h0
 have hlt:i%z.cells.size<z.cells.size:=Z7 _ hp;rw[getElem!_pos z.cells _ hlt];exact h _ (Array.getElem_mem hlt)
):P:=h
theorem TH(h:P:=by
 rcases h.2 with⟨rfl,hn⟩|⟨g,cap,cur,rfl,hb,hg,hnc,hcm,hcs,htake⟩
 ·exact⟨none,0,by rw[hn],Ya⟩
 ·exact⟨_,cap,rfl,hnc⟩
):P:=h
theorem Eo(h:P:=by
 intro u hu
 rcases Zar.1 hu with hu|hu
 ·rcases Zar.1 hu with hu|hu
  ·exact hcur _ Vi
  ·exact hnn _ hu
 ·exact hcur _ Vj
):P:=h
theorem Ep(h:P:=by
 rcases Array.mem_append.1 hu with hu|hu
 ·refine hcur _ ?_
  rw[<- htake]at hu;exact Array.mem_toList_iff.1 (ZT XV)
 ·exact hnn _ XV
):P:=h
theorem EA(h:P:=by
 intro j u hj;rw[Zaq]
 match j,hj with
 | 0,hj=>rw[<- hj];exact c0
 | 1,hj=>rw[<- hj];exact c1
 | 2,hj=>rw[<- hj];exact c2
):P:=h
theorem Ip(h:P:=by obtain⟨xs,ho,_⟩:=h.ex;exact ho.lt k hk):P:=h
theorem Iw(h:P:=by
 by_cases k2:lo+1<=v/\v<lo+1+n
 ·rw[Zm k2,Zm Ya]
 ·rw[Zg k2,Zg Ya]
):P:=h
theorem I4(h:P:=by exact⟨hl,.inl (Zy hn)⟩):P:=h
def noI(v:Value):Bool:=match v with | .int .u32 _=>false|_=>true
def NoO(w:World)(v:Value):Prop:=∀g,v.ownBlock=some g->zX w g
theorem zso(h:∀x,v≠.int .u32 x):noI v=true:=by
 unfold noI
 split
 ·exact absurd rfl (h _)
 ·rfl
theorem zX.of_heap{g:Nat}{c:Array Value}{f:Nat×Nat}(h:w.heap[g]? =some (.cells c T f))(hc:∀u∈c,noI u=true):zX w g:=by
 intro o x e;simp only[World.cell?,h]at e;have:=hc _ (Zbk e);cases this
theorem zkU{z:Value}(h:∀u∈z.cells,noI u=true):∀u∈Builtin.zeroCells z.cells n,noI u=true:=To
theorem zfc{P:Program}(w:World)(base:Nat)(t ty e:TypeId)(i:TypeInfo)(z:Value)(size bytes:Nat)(ht:P.underlying t=some (.slice e))(hi:P.info? e=some i)(hz:i.zero=some z)
 (hsize:i.size=size)(hby:i.bytes=bytes)(hzs:z.cells.size=size)(hsz:0<size)
 (v:Value)(n:Nat)(xs:List Value)(hown:w.ownsRow base e size v n xs)
 (a:Addr)(m c:Nat)(news:List Value)(hl:news.length=m*size)(hnews:∀j u,news[j]? =some u->w.cell? (a.add j)=some u)(h1:∀u∈news,u.oneCell'=true)
 (hm:0<m)(h63:n+m<=maxLen)(hbytes:(n+m)*bytes<=140737488355328)(hbase:base<=w.heap.size)
 (hno:NoO w v)(hnn:∀u∈news,noI u=true)(hzn:∀u∈z.cells,noI u=true):
  ∃v' w',(Builtin.append_ #[t,t] ty #[v,.slice (some a) m c]).run P w=.ok v' w'/\w'.ownsRow base e size v' (n+m) (xs++news)/\w.grownBy w' v.ownBlock/\zi7 w v v'/\NoO w' v':=by
 obtain⟨v',w',hr,h2,h3,h4⟩:=zbM (P:=P) w base t ty e i z size bytes ht hi hz hsize hby hzs hsz v n xs hown a m c news hl hnews h1 hm h63 hbytes hbase
 refine⟨v',w',hr,h2,h3,h4,?_⟩
 subst hsize;subst hby;have hsmall:n+m<=9223372036854775807:=XG
 rcases hown.2 with⟨rfl,rfl⟩|⟨g,cap,cur,rfl,hbg,hg,hnc,hcm,hcs,htake⟩
 ·have hr':=run_append_nil (P:=P) w t ty e i z ht hi hz a m c news hl hnews hm Ya XF;rw[hr']at hr;cases hr;intro g' hg';cases hg'
  refine zX.of_heap (Za8 w.drew _) ?_
  intro u hu
  rcases Array.mem_append.1 hu with hu|hu
  ·exact hnn _ XV
  ·exact zkU hzn _ hu
 ·have hcur:∀u∈cur,noI u=true:=by
   intro u hu
   refine zso fun x ex=>?_
   subst ex;obtain⟨j,hj⟩:=Array.getElem?_of_mem hu;exact hno g rfl j x Vh
  by_cases hroom:n+m<=cap
  ·have hfit:n*i.size+news.length<=cur.size:=YN;have hr':=run_append_room (P:=P) w t ty e i ht hi g n cap cur hg a m c news hl hnews h1 hroom hfit;rw[hr']at hr;cases hr;intro g' hg';cases hg';intro o x ee;simp only[World.cell?,World.setRow]at ee;have hgs:=(ZF.1 hg).1;have hmem:∀u∈(cur.toList.take (n*i.size)++news++cur.toList.drop (n*i.size+news.length)),noI u=true:=Eo;have key:∀(u:Value),(cur.toList.take (n*i.size)++news++cur.toList.drop (n*i.size+news.length)).toArray[o]? =some u->noI u=true:=fun u hu=>hmem u Va
   have hcell:(w.setRow g (cur.toList.take (n*i.size)++news++cur.toList.drop (n*i.size+news.length)).toArray).cell? ⟨g,o,none⟩=(cur.toList.take (n*i.size)++news++cur.toList.drop (n*i.size+news.length)).toArray[o]? :=by
    simp[World.cell?,World.setRow,Zbl,hg]
   have:=key (.int .u32 x) (hcell.symm.trans Jv);cases this
  ·have holds:∀j u,xs[j]? =some u->w.cell? ((⟨g,0,none⟩:Addr).add j)=some u:=hown.cells (g:=g) rfl;have hr':=run_append_grow (P:=P) w t ty e i z ht hi hz ⟨g,0,none⟩ n cap xs hown.1 holds a m c news hl hnews Ya Ya (growslice_fits Ya hbytes);rw[hr']at hr;cases hr;intro g' hg';cases hg'
   refine zX.of_heap (Za8 w.drew _) ?_
   intro u hu
   rcases Array.mem_append.1 hu with hu|hu
   ·exact Ep
   ·exact zkU hzn _ hu
structure zhm (w:World) (base:Nat) (v:Value) (L:List zaf):Prop where
 ex:∃xs,w.ownsRow base 51 3 v L.length xs/\∀(j:Nat) (x:zaf),L[j]? =some x->∃(an ad:Option Addr) (cn cd:Nat),xs[j*3]? =some (.bool x.neg)/\xs[j*3+1]? =some (.slice an x.num.length cn)/\xs[j*3+2]? =some (.slice ad x.den.length cd)/\
  x.num.length<=cn/\x.den.length<=cd/\zw w an x.num/\zw w ad x.den
 no:NoO w v
theorem zhm.nil(w:World)(base:Nat):zhm w base (.slice none 0 0) []:=⟨⟨[],Zaw _ _ _ _,Yc⟩,Vq⟩
theorem zw.grown{a:Option Addr}{l:List Nat}(h:zw w a l)(hg:w.grownBy w' v.ownBlock)(hn:NoO w v):zw w' a l:=by
 by_cases hl:l=[]
 ·exact IM
 obtain⟨b,off,rfl,hb,hc⟩:=h.open hl;have hp:=ZJ.2 hl;have hne:some b≠v.ownBlock:=fun e=>hn b e.symm _ _ (hc 0 hp)
 refine⟨h.lim,h.len,h.row.imp id ?_⟩
 rintro⟨b',off',e,_,hcc⟩;cases e;exact⟨b,off,rfl,Zb hb hg.size,fun j d hj=>(ZS (hg.block b hb hne)).trans (hcc j d hj)⟩
theorem RatV.grown{u:Value}(h:RatV w u x)(hg:w.grownBy w' v.ownBlock)(hn:NoO w v):RatV w' u x:=by
 obtain⟨an,ad,cn,cd,h1,h2,h3,h4,h5⟩:=h.ex;exact⟨an,ad,cn,cd,h1,h2,h3,h4.grown hg hn,h5.grown hg hn⟩
theorem zhm.lt(h:zhm w base v L){k:Nat}(hk:v.ownBlock=some k):base<=k/\k<w.heap.size:=Ip
theorem zhm.below(h:zhm w base v L)(hb:Below w.heap.size w w'):zhm w' base v L:=by
 obtain⟨xs,ho,he⟩:=h.ex
 refine⟨⟨xs,ho.kept (row:=none) ⟨hb.os,hb.tape,hb.output,hb.size,fun k hk _=>hb.block k hk⟩ Xh,fun j x hj=>?_⟩,fun g hg=>(h.no g hg).below hb (h.lt hg).2⟩
 obtain⟨an,ad,cn,cd,h1,h2,h3,h4,h5,h6,h7⟩:=he j x hj;exact⟨an,ad,cn,cd,h1,h2,h3,h4,h5,h6.below hb,h7.below hb⟩
theorem zgO(h:w.ownsRow base T 3 v n xs):∃a c,v=.slice a n c/\n<=c:=TH
theorem zhm.form(h:zhm w base v L):∃a c,v=.slice a L.length c/\L.length<=c:=by
 obtain⟨xs,ho,_⟩:=h.ex;exact zgO ho
theorem zhm.rats{a:Option Addr}{c:Nat}(h:zhm w base (.slice a n c) L)(hl:L.length<=9223372036854775807):zm w a L:=by
 obtain⟨xs,ho,he⟩:=h.ex
 rcases ho.2 with⟨e,hn⟩|⟨g,cap,cur,e,hb,hg,hnc,hcm,hcs,htake⟩
 ·exact I4
 ·cases e
  refine⟨hl,.inr ⟨g,0,rfl,(ZF.1 hg).1,fun j x hj=>?_⟩⟩
  obtain⟨an,ad,cn,cd,h1,h2,h3,h4,h5,h6,h7⟩:=he j x hj;have k0:=ho.cells (g:=g) rfl _ _ h1;have k1:=ho.cells (g:=g) rfl _ _ h2;have k2:=ho.cells (g:=g) rfl _ _ h3;simp only[Zaq]at k0 k1 k2;exact⟨an,ad,cn,cd,k0,k1,k2,an,ad,cn,cd,rfl,h4,h5,h6,h7⟩
theorem zhm.app{v':Value}{an ad:Option Addr}{cn cd:Nat}(h:zhm w base v L)
 (he:∀(j:Nat) (x:zaf),L[j]? =some x->∃(an ad:Option Addr) (cn cd:Nat),xs[j*3]? =some (.bool x.neg)/\xs[j*3+1]? =some (.slice an x.num.length cn)/\xs[j*3+2]? =some (.slice ad x.den.length cd)/\
   x.num.length<=cn/\x.den.length<=cd/\zw w an x.num/\zw w ad x.den)(hxl:xs.length=L.length*3)
 (h1:x.num.length<=cn)(h2:x.den.length<=cd)(h3:zw w an x.num)(h4:zw w ad x.den)
 (hown:w'.ownsRow base 51 3 v' (L.length+1) (xs++[.bool x.neg,.slice an x.num.length cn,.slice ad x.den.length cd]))(hg:w.grownBy w' v.ownBlock)(hno:NoO w' v'):zhm w' base v' (L++[x]):=by
 refine⟨⟨_,VK,fun j y hj=>?_⟩,hno⟩
 by_cases hlt:j<L.length
 ·rw[Zz hlt]at hj;obtain⟨bn,bd,dn,dd,q1,q2,q3,q4,q5,q6,q7⟩:=he j y hj
  refine⟨bn,bd,dn,dd,?_,?_,?_,q4,q5,q6.grown hg h.no,q7.grown hg h.no⟩
  ·rw[Zz Ya];exact q1
  ·rw[Zz Ya];exact q2
  ·rw[Zz Ya];exact q3
 ·have hlt':=(Zr.1 hj).1;simp only[ZE,ZH,Zax]at hlt';obtain rfl:j=L.length:=Ya;have e2:y=x:=JV;subst e2
  refine⟨an,ad,cn,cd,?_,?_,?_,h1,h2,h3.grown hg h.no,h4.grown hg h.no⟩
  ·rw[ZI Ya];simp[hxl]
  ·rw[ZI Ya,show L.length*3+1-xs.length=1 from Ya];rfl
  ·rw[ZI Ya,show L.length*3+2-xs.length=2 from Ya];rfl
theorem zcQ{P:Program}{w:World}{ops:Array Oper}{rest:List Oper}{o:Oper}{a:Act}{Q:Exit->Act->World->Prop}(hgd:o.guard=none)(s x:Operand)(t:TypeId)
 (ho:o.op=.call { callee:=.builtin .append,args:=#[s,x],argTypes:=#[t,t] })
 (base:Nat)(ht:P.underlying t=some (.slice 51))(hinfo:(P.info? 51).map (fun i=>(i.zero,i.size,i.bytes))=some (some (.agg #[.bool false,.slice none 0 0,.slice none 0 0]),3,56))
 (v:Value)(n:Nat)(L:List zaf)(hn:L.length=n)(hs:a.eval s=v)(hown:zhm w base v L)(u:Value)(y:zaf)(hu:zj4 w u y)
 (hx:a.eval x=u)(hL:n+1<=2000000000000)(hbase:base<=w.heap.size)
 (h:∀b k w',zhm w' base (.slice b (n+1) k) (L++[y])->n+1<=k->w.grownBy w' v.ownBlock->Below base w w'->wpList P ops Q rest (a.put o.dst (.slice b (n+1) k)) w'):
  wpList P ops Q (o::rest) a w:=by
 subst hn
 refine wpList_plain hgd fun K hK=>?_
 obtain⟨i,hi,hz,hsize,hby⟩:=info_parts hinfo;obtain⟨xs,hox,he⟩:=hown.ex;obtain⟨g,an,ad,cn,cd,rfl,hg,c0,c1,c2,h1,h2,h3,h4⟩:=hu.ex;have hcells:∀(j:Nat) (u:Value),[Value.bool y.neg,.slice an y.num.length cn,.slice ad y.den.length cd][j]? =some u->w.cell? (Addr.add ⟨g,0,none⟩ j)=some u:=EA;obtain⟨v',w',hr,r2,r3,r4,r5⟩:=zfc (P:=P) w base t o.type _ i _ 3 56 ht hi hz hsize hby Kk Ya v L.length xs hox ⟨g,0,none⟩ 1 1
  [.bool y.neg,.slice an y.num.length cn,.slice ad y.den.length cd] rfl hcells
  Yp Ya Yf Ya hbase
  hown.no Yp Xr
 have hO:=hown.app (x:=y) (w':=w') (v':=v') (xs:=xs) (an:=an) (ad:=ad) (cn:=cn) (cd:=cd) he hox.1 h1 h2 h3 h4 r2 r3 r5;have hbe:Below base w w':=(Ze base w).grown r3 hbase (fun k hk=>(hown.lt hk).1);obtain⟨b,k,e,hk⟩:=zgO r2;subst e;unfold Oper.wp execOp;simp only[ho,resolve,invoke,builtin,Sem.run_bind,Sem.run_pure,Result.andThen_ok,List.map_toArray,Zbf,List.map_nil,hs,hx,hr];exact hK _ _ (h b k w' hO hk r3 hbe)
def zM:List (Nat×Rat)->Nat->Rat
 | [],_=>0
 | (u,q)::r,v=>if u=v then q else zM r v
def zbB:List (Nat×Rat)->Nat->Prop
 | [],_=>True
 | (u,q)::r,lo=>lo<=u/\q≠0/\zbB r (u+1)
def zcM:List (Nat×Rat)->Nat
 | []=>0
 | (u,_)::r=>max (u+1) (zcM r)
theorem zbB.mono:∀{l:List (Nat×Rat)} {lo lo':Nat},zbB l lo->lo'<=lo->zbB l lo'
 | [],_,_,_,_=>trivial
 | (u,q)::r,_,_,⟨h1,h2,h3⟩,h=>⟨Zi h h1,h2,h3⟩
theorem zdr:∀{l:List (Nat×Rat)} {lo v:Nat},zbB l lo->v<lo->zM l v=0
 | [],_,_,_,_=>rfl
 | (u,q)::r,lo,v,⟨h1,_,h3⟩,h=>by
  show(if u=v then q else zM r v)=0
  rw[Zg Ya];exact zdr h3 Ya
theorem zir:∀{l:List (Nat×Rat)} {v:Nat},zcM l<=v->zM l v=0
 | [],_,_=>rfl
 | (u,q)::r,v,h=>by
  have h':max (u+1) (zcM r)<=v:=h;show(if u=v then q else zM r v)=0
  rw[Zg Ya];exact zir Ya
theorem znS:∀{l m:List (Nat×Rat)} {lo lo':Nat},zbB l lo->zbB m lo'->(∀v,zM l v=zM m v)->l=m
 | [],[],_,_,_,_,_=>rfl
 | [],(u,q)::r,_,_,_,⟨_,h2,_⟩,h=>by
  have:=h u;have e:zM ((u,q)::r) u=q:=Xw;rw[e]at this;exact absurd this.symm h2
 | (u,q)::r,[],_,_,⟨_,h2,_⟩,_,h=>by
  have:=h u;have e:zM ((u,q)::r) u=q:=Xw;rw[e]at this;exact absurd this h2
 | (u,q)::r,(u',q')::r',lo,lo',⟨a1,a2,a3⟩,⟨b1,b2,b3⟩,h=>by
  have e1:zM ((u,q)::r) u=q:=Xw;have e2:zM ((u',q')::r') u'=q':=by show(if u'=u' then q' else _)=q';rw[Zm rfl]
  have hu:u=u':=by
   rcases Zbo u u' with k|k|k
   ·have:=h u;rw[e1]at this;have z:zM ((u',q')::r') u=0:=by
     show(if u'=u then q' else zM r' u)=0
     rw[Zg Ya];exact zdr b3 Ya
    rw[z]at this;exact absurd this a2
   ·exact k
   ·have:=h u';rw[e2]at this;have z:zM ((u,q)::r) u'=0:=by
     show(if u=u' then q else zM r u')=0
     rw[Zg Ya];exact zdr a3 Ya
    rw[z]at this;exact absurd this.symm b2
  subst hu;have hq:q=q':=by have:=h u;rw[e1,e2]at this;exact this
  subst hq;have hr:r=r':=znS a3 b3 (fun v=>by
   by_cases k:u=v
   ·subst k;rw[zdr a3 Ya,zdr b3 Ya]
   ·have:=h v;have f1:zM ((u,q)::r) v=zM r v:=Jw;have f2:zM ((u,q)::r') v=zM r' v:=Jw;rw[f1,f2]at this;exact this)
  rw[hr]
def ofC(fn:Nat->Rat)(lo:Nat):Nat->List (Nat×Rat)
 | 0=>[]
 | n+1=>if fn lo=0 then ofC fn (lo+1) n else(lo,fn lo)::ofC fn (lo+1) n
theorem zkt(fn:Nat->Rat):∀(n lo:Nat),zbB (ofC fn lo n) lo
 | 0,_=>trivial
 | n+1,lo=>by
  show zbB (if fn lo=0 then ofC fn (lo+1) n else(lo,fn lo)::ofC fn (lo+1) n) lo
  split
  ·exact(zkt fn n (lo+1)).mono Ya
  ·rename_i h;exact⟨Za _,h,zkt fn n (lo+1)⟩
theorem zix(fn:Nat->Rat):∀(n lo v:Nat),zM (ofC fn lo n) v=if lo<=v/\v<lo+n then fn v else 0
 | 0,lo,v=>by rw[Zg Ya];rfl
 | n+1,lo,v=>by
  show zM (if fn lo=0 then ofC fn (lo+1) n else(lo,fn lo)::ofC fn (lo+1) n) v=_
  by_cases hz:fn lo=0
  ·rw[Zm hz,zix fn n (lo+1) v]
   by_cases k:lo=v
   ·subst k;rw[Zg Ya,Zm Ya,hz]
   ·exact Iw
  ·rw[Zg hz];show(if lo=v then fn lo else zM (ofC fn (lo+1) n) v)=_
   by_cases k:lo=v
   ·subst k;rw[Zm rfl,Zm Ya]
   ·rw[Zg k,zix fn n (lo+1) v];exact Iw
structure zl where
 ts:List (Nat×Rat)
 c:Rat
def zl.Can(f:zl):Prop:=zbB f.ts 0
def zfm(k:Rat)(f g:List (Nat×Rat)):List (Nat×Rat):=ofC (fun v=>zM f v+k*zM g v) 0 (max (zcM f) (zcM g))
def zbi(k:Rat)(f g:zl):zl:=⟨zfm k f.ts g.ts,f.c+k*g.c⟩
def zcB:zl:=⟨[],0⟩
def zbv(v:Nat):zl:=⟨[(v,1)],0⟩
def zoP(q:Rat):zl:=⟨[],q⟩
theorem zgl(k:Rat)(f g:List (Nat×Rat)):zbB (zfm k f g) 0:=zkt _ _ _
theorem za3(k:Rat)(f g:List (Nat×Rat))(v:Nat):zM (zfm k f g) v=zM f v+k*zM g v:=by
 unfold zfm;rw[zix]
 split
 ·rfl
 ·rename_i h
  have e1:zM f v=0:=zir Ya;have e2:zM g v=0:=zir Ya;rw[e1,e2,Rat.mul_zero,Za5]
theorem zfQ(h:zbB l lo)(e:∀v,zM l v=zM f v+k*zM g v):l=zfm k f g:=znS h (zgl k f g) (fun v=>by rw[e,za3])
theorem zbf(k:Rat)(f g:zl):(zbi k f g).Can:=zgl _ _ _
theorem zel:zcB.Can:=trivial
theorem zkP(q:Rat):(zoP q).Can:=trivial
theorem zff(v:Nat):(zbv v).Can:=⟨Zs _,Yd,trivial⟩
theorem zeR:∀{l m:List (Nat×Rat)} {v lo:Nat},zbB m lo->zcM l<=lo->zM (l++m) v=zM l v+zM m v
 | [],m,v,lo,_,_=>by rw[ZaV];show zM m v=0+zM m v;rw[Za4]
 | (u,q)::r,m,v,lo,h,ht=>by
  have ht':max (u+1) (zcM r)<=lo:=ht;show(if u=v then q else zM (r++m) v)=(if u=v then q else zM r v)+zM m v
  by_cases k:u=v
  ·rw[Zm k,Zm k,zdr h Ya,Za5]
  ·rw[Zg k,Zg k];exact zeR h Ya
theorem zgV:∀{l m:List (Nat×Rat)} {lo lo':Nat},zbB l lo->zbB m lo'->zcM l<=lo'->lo<=lo'->zbB (l++m) lo
 | [],m,lo,lo',_,h,_,hl=>h.mono hl
 | (u,q)::r,m,lo,lo',⟨h1,h2,h3⟩,h,ht,hl=>by
  have ht':max (u+1) (zcM r)<=lo':=ht;exact⟨h1,h2,zgV h3 h Ya Ya⟩
theorem znJ:∀(l m:List (Nat×Rat)),zcM (l++m)=max (zcM l) (zcM m)
 | [],m=>by show zcM m=max 0 (zcM m);omega
 | (u,q)::r,m=>by
  show max (u+1) (zcM (r++m))=max (max (u+1) (zcM r)) (zcM m)
  rw[znJ r m];omega
def zcs(l:List (Nat×Rat))(v:Nat)(q:Rat):List (Nat×Rat):=if q=0 then l else l++[(v,q)]
theorem zgQ{v:Nat}(ht:zcM l<=v)(u:Nat):zM (zcs l v q) u=zM l u+(if v=u then q else 0):=by
 unfold zcs
 split
 ·rename_i h;rw[h];split<;>rw[Za5]
 ·rename_i h
  rw[zeR (m:=[(v,q)]) (lo:=v) ⟨Za _,h,trivial⟩ ht];rfl
theorem ziC{v:Nat}(h:zbB l 0)(ht:zcM l<=v):zbB (zcs l v q) 0:=by
 unfold zcs
 split
 ·exact h
 ·rename_i hq;exact zgV h (lo':=v) ⟨Za _,hq,trivial⟩ ht (Zs _)
theorem ziq{v:Nat}(ht:zcM l<=v):zcM (zcs l v q)<=v+1:=by
 unfold zcs
 split
 ·omega
 ·rw[znJ];show max (zcM l) (max (v+1) 0)<=v+1;omega
structure zj5 (k:Rat) (f g out a b:List (Nat×Rat)) (lo:Nat):Prop where
 can:zbB out 0
 top:zcM out<=lo
 ca:zbB a lo
 cb:zbB b lo
 eq:∀v,zM out v+(zM a v+k*zM b v)=zM f v+k*zM g v
theorem zj5.start(hf:zbB f 0)(hg:zbB g 0):zj5 k f g [] f g 0:=
 ⟨trivial,Za _,hf,hg,fun v=>by show 0+_=_;rw[Za4]⟩
theorem zbr(u:Nat)(q:Rat)(r:List (Nat×Rat)){lo:Nat}(h:zbB r (u+1))(v:Nat):zM ((u,q)::r) v=(if u=v then q else 0)+zM r v:=by
 show(if u=v then q else zM r v)=_
 by_cases k:u=v
 ·rw[Zm k,Zm k,zdr h Ya,Za5]
 ·rw[Zg k,Zg k,Za4]
theorem zj5.left(h:zj5 k f g out ((u,q)::a) b lo)(hb:zbB b (u+1)):zj5 k f g (zcs out u q) a b (u+1):=by
 obtain⟨h1,h2,⟨a1,a2,a3⟩,h4,h5⟩:=h
 refine⟨ziC h1 Ya,ziq Ya,a3,hb,fun v=>?_⟩
 rw[zgQ Ya,<- h5 v,zbr u q a (lo:=0) a3 v]
 grind
theorem zj5.right(h:zj5 k f g out a ((u,q)::b) lo)(ha:zbB a (u+1)):zj5 k f g (zcs out u (q*k)) a b (u+1):=by
 obtain⟨h1,h2,h3,⟨b1,b2,b3⟩,h5⟩:=h
 refine⟨ziC h1 Ya,ziq Ya,ha,b3,fun v=>?_⟩
 rw[zgQ Ya,<- h5 v,zbr u q b (lo:=0) b3 v]
 split<;>grind
theorem zj5.both{p:Rat}(h:zj5 k f g out ((u,p)::a) ((u,q)::b) lo):zj5 k f g (zcs out u (p+q*k)) a b (u+1):=by
 obtain⟨h1,h2,⟨a1,a2,a3⟩,⟨b1,b2,b3⟩,h5⟩:=h
 refine⟨ziC h1 Ya,ziq Ya,a3,b3,fun v=>?_⟩
 rw[zgQ Ya,<- h5 v,zbr u p a (lo:=0) a3 v,zbr u q b (lo:=0) b3 v]
 split<;>grind
theorem zj5.done{k:Rat}{f g out:List (Nat×Rat)}{lo:Nat}(h:zj5 k f g out [] [] lo):out=zfm k f g:=
 zfQ h.can (fun v=>by
  rw[<- h.eq v];show _=zM out v+(0+k*0)
  grind)
def zds(x:List Rat):List (Nat×Rat)->Rat
 | []=>0
 | (u,q)::r=>q*x.getD u 0+zds x r
def ziM(fn:Nat->Rat)(lo:Nat):Nat->Rat
 | 0=>0
 | n+1=>fn lo+ziM fn (lo+1) n
theorem zgL{fn:Nat->Rat}:∀(n lo:Nat),(∀v,lo<=v->v<lo+n->fn v=0)->ziM fn lo n=0
 | 0,_,_=>rfl
 | n+1,lo,h=>by
  show fn lo+ziM fn (lo+1) n=0
  rw[h lo (Za _) Ya,zgL n (lo+1) (fun v a b=>h v Ya Ya),Za5]
theorem zfu{fn gn:Nat->Rat}:∀(n lo:Nat),(∀v,lo<=v->v<lo+n->fn v=gn v)->ziM fn lo n=ziM gn lo n
 | 0,_,_=>rfl
 | n+1,lo,h=>by
  show fn lo+ziM fn (lo+1) n=gn lo+ziM gn (lo+1) n
  rw[h lo (Za _) Ya,zfu n (lo+1) (fun v a b=>h v Ya Ya)]
theorem ziN{fn gn:Nat->Rat}(k:Rat):∀(n lo:Nat),ziM (fun v=>fn v+k*gn v) lo n=ziM fn lo n+k*ziM gn lo n
 | 0,_=>by show(0:Rat)=0+k*0;grind
 | n+1,lo=>by
  show(fn lo+k*gn lo)+ziM (fun v=>fn v+k*gn v) (lo+1) n=(fn lo+ziM fn (lo+1) n)+k*(gn lo+ziM gn (lo+1) n)
  rw[ziN k n (lo+1)]
  grind
theorem zhf{fn:Nat->Rat}{u:Nat}:∀(n lo:Nat),lo<=u->u<lo+n->(∀v,v≠u->fn v=0)->ziM fn lo n=fn u
 | 0,lo,h1,h2,_=>by omega
 | n+1,lo,h1,h2,h=>by
  show fn lo+ziM fn (lo+1) n=fn u
  by_cases k:lo=u
  ·subst k;rw[zgL n (lo+1) (fun v a _=>h v Ya),Za5]
  ·rw[h lo k,Za4];exact zhf n (lo+1) Ya Ya h
theorem zeU(x:List Rat):∀{l:List (Nat×Rat)} {lo:Nat} (N:Nat),zbB l lo->zcM l<=N->zds x l=ziM (fun v=>zM l v*x.getD v 0) 0 N
 | [],lo,N,_,_=>by
  rw[zgL N 0 (fun v _ _=>by show(0:Rat)*_=0;rw[Rat.zero_mul])];rfl
 | (u,q)::r,lo,N,⟨h1,h2,h3⟩,ht=>by
  have ht':max (u+1) (zcM r)<=N:=ht;show q*x.getD u 0+zds x r=_
  rw[zeU x N h3 Ya];have e:ziM (fun v=>zM ((u,q)::r) v*x.getD v 0) 0 N=ziM (fun v=>(if u=v then q else 0)*x.getD v 0+1*(zM r v*x.getD v 0)) 0 N:=
   zfu N 0 (fun v _ _=>by rw[zbr u q r (lo:=0) h3 v];grind)
  have key:=ziN (fn:=fun v=>(if u=v then q else 0)*x.getD v 0) (gn:=fun v=>zM r v*x.getD v 0) 1 N 0;have s1:ziM (fun v=>(if u=v then q else 0)*x.getD v 0) 0 N=q*x.getD u 0:=by
   rw[zhf (fn:=fun v=>(if u=v then q else 0)*x.getD v 0) (u:=u) N 0 (Zs _) Ya (fun v hv=>by rw[Zg (fun h=>hv h.symm),Rat.zero_mul])];simp
  rw[e,key,s1,Zbn]
def zK(x:List Rat)(f:zl):Rat:=f.c+zds x f.ts
theorem zcl(x:List Rat)(k:Rat){f g:zl}(hf:f.Can)(hg:g.Can):zK x (zbi k f g)=zK x f+k*zK x g:=by
 unfold zK;have e:zds x (zfm k f.ts g.ts)=zds x f.ts+k*zds x g.ts:=by
  obtain⟨N,hN⟩:∃N,N=max (zcM f.ts) (max (zcM g.ts) (zcM (zfm k f.ts g.ts))):=⟨_,rfl⟩
  rw[zeU x N (zgl k f.ts g.ts) Ya,zeU x N hf Ya,zeU x N hg Ya,<- ziN k]
  refine zfu N 0 (fun v _ _=>?_)
  show zM (zfm k f.ts g.ts) v*x.getD v 0=zM f.ts v*x.getD v 0+k*(zM g.ts v*x.getD v 0)
  rw[za3]
  grind
 show f.c+k*g.c+zds x (zfm k f.ts g.ts)=(f.c+zds x f.ts)+k*(g.c+zds x g.ts)
 rw[e]
 grind
theorem zjD(x:List Rat)(v:Nat):zK x (zbv v)=x.getD v 0:=by
 show(0:Rat)+(1*x.getD v 0+0)=_
 grind
theorem znO(x:List Rat)(q:Rat):zK x (zoP q)=q:=by
 show q+0=q
 grind
theorem ztB{u:Value}{n1 n2:Bool}{x y k1 k2:Nat}(hv:zc8 w v n1 x k1)(hu:zc8 w u n2 y k2)(hy:0<y)(hr1:k1<=2097152)(hr2:k2<=2097152):
  Calls Tryz.prog 132 #[v,u] w (zmV w (zc (mkRat (sgn (n1 != n2) x) y)) 0):=by
 have HU:=hid hu;obtain⟨a,c,l,rfl,h1,h2,h3,h4⟩:=hv.ex;obtain⟨b,d,m,rfl,g1,g2,g3,g4⟩:=hu.ex;have hl1:=h2.len;have hl2:=g2.len;obtain⟨HQ,H2,G2,H3,G3,HY⟩:=hd6 (zb4 (n1 != n2) x hy) h2 g2 h3 g3 hy;have hz:(zdv n2 y==0)=false:=by
  rw[Zaf];unfold zdv;rw[Zg Ya]
  split<;>omega
 clear hv hu h2 g2 h3 g3 hy
 go_enter Tryz.func132,Tryz.ntmps132
 go_wp2_with fail
 have hF:=zmb.mk' w (.bool n1) (.slice a l.length c) (.bool n2) (.slice b m.length d) 89 51;generalize((w.alloc (.cells #[.bool n1,.slice a l.length c] 89)).alloc (.cells #[.bool n2,.slice b m.length d] 89)).alloc (zc9 51)=W0 at *;obtain⟨HS,HF0⟩:=hd2 (zrW (HU.out.below hF.bl) Ya) hF;clear hF
 refine HS.out.mono ?_
 rintro e W ⟨rfl,hbW⟩;have HF:=hid (HF0.out.below' hbW);generalize zdv n2 y=sq at *;clear HS HF0 hbW HU;obtain⟨x0,x1,_,xlt⟩:=HF.out.a;obtain⟨y0,y1,_,ylt⟩:=HF.out.b;have hC:=zod (n1 != n2) c d h1 g1 (H2.out.below HF.out.bl) (G2.out.below HF.out.bl) H3.out G3.out Ya Ya HY.out;rw[HQ.out]at hC;have HC:=hid hC;clear hC H2 G2
 go_wp2_with fail
 refine HC.out.mono ?_
 rintro e w5 ⟨v5,rfl,⟨bn',bd',m1,m2,rfl,k3,k4,k5,k6⟩,k2⟩;obtain⟨r0,r1,r2,rf,rlt⟩:=HF.out.c.below k2;obtain⟨hN5,K5,K6,hB5⟩:=hd4 (HF.out.nc.below k2 HF.out.c.lt) k5 k6 (HF.out.bl.trans (k2.mono Yv));clear HC k5 k6 k2 x0 x1 xlt y0 y1 ylt hz;generalize zc (mkRat (sgn (n1 != n2) x) y)=R at *;go_wp2;exact Zp (v:=.tuple #[.agg #[.bool R.neg,.slice bn' R.num.length m1,.slice bd' R.den.length m2],.int .i64 0]) (by simp[results,Tryz.results132,go_sem,r0,r1,r2]) rfl ⟨_,rfl,RatV.store hN5.out k3 k4 K5.out K6.out,zu hB5.out Ya _ _ _⟩
