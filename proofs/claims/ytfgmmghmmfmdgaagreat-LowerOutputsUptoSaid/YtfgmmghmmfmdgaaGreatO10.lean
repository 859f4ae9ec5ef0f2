/-
  Contracts: ModF.
-/
import Derived.Test.YtfgmmghmmfmdgaaGreatO8
import Derived.Maps.OwnSet
import Derived.Test.YtfgmmghmmfmdgaaGreatO0
set_option linter.all false
set_option maxRecDepth 100000
set_option maxHeartbeats 3200000
namespace Go.Proofs.YtfgmmghmmfmdgaaGreat
open Go.RowKit
open Go.Lib (hid)
variable {w w':World} {b n:Nat} {x:Int}
theorem run_store_func(P:Program)(w:World)(a:Addr)(m:Mode)(fn:Fn)(f c:Array Value):(store a (.func fn f c) m).run P w=stored P w a (.func fn f c) m:=run_store P w a _ m rfl
def zk6(v:Value):Option (DataW Value×List MemPlace):=some (.held v,[])
theorem Tryz.zeroCond(w:World):(zeroValue 118).run Tryz.prog w=.ok .nilFunc w:=Yb
def zli(w:World)(b n:Nat)(G:Int->Option Value):Prop:=∃D:DataW Value,w.ownsMap Tryz.prog 3 zk6 b n D/\Go.Maps.IsMap D/\∀x,I64 x->D.atKey (.int .i64 x) (.held .nilFunc)=.held ((G x).getD .nilFunc)/\Go.Maps.has D (.int .i64 x)=(G x).isSome
def zon(G:Int->Option Value)(x:Int)(v:Value):Int->Option Value:=fun y=>if y=x then some v else G y
theorem zli.made(w:World):zli (w.alloc (.map #[] 0)) w.heap.size 0 (fun _=>none):=⟨.map [],World.ownsMap_made _ _ _ _,Go.Maps.isMap_empty,fun x _=>⟨rfl,rfl⟩⟩
theorem zli.kept{G:Int->Option Value}(h:zli w b n G)(hb:Below w.heap.size w w'):zli w' b n G:=by
 obtain⟨D,h1,h2,h3⟩:=h;exact⟨D,h1.kept (row:=none) ⟨hb.os,hb.tape,hb.output,hb.size,fun k hk _=>hb.block k hk⟩ Yc,h2,h3⟩
theorem zli.look{G:Int->Option Value}(h:zli w b n G)(hx:I64 x):
  (Instr.lookup 115 (.map (some b)) (.int .i64 x) true).run Tryz.prog w=.ok (.tuple #[(G x).getD .nilFunc,.bool (G x).isSome]) w:=by
 obtain⟨D,h1,h2,h3⟩:=h;obtain⟨v,ps,hrun,hv⟩:=h1.look_ok Tryz.mapKeyed Tryz.underlying115 (Tryz.zeroCond w) (zd:=.held .nilFunc) (zp:=[]) rfl (ziF hx);rw[(h3 x hx).1]at hv;rw[(h3 x hx).2]at hrun;unfold zk6 at hv;simp only[ZaG,Prod.mk.injEq,DataW.held.injEq]at hv;rw[hrun,hv.1]
theorem zli.put{G:Int->Option Value}(h:zli w b n G)(hx:I64 x)(hn:n<maxLen)(v:Value):∃w',(Instr.mapUpdate 115 (.map (some b)) (.int .i64 x) v).run Tryz.prog w=.ok () w'/\zli w' b (n+1) (zon G x v)/\w.grownBy w' (some b):=by
 obtain⟨D,h1,h2,h3⟩:=h;obtain⟨w',hrun,r1,r2⟩:=h1.update Tryz.mapKeyed Tryz.underlying115 hn (ziF hx) (val:=v) (d:=.held v) (ps:=[]) rfl
 refine⟨w',hrun,⟨_,r1,Go.Maps.IsMap.put h2 _ _,fun y hy=>?_⟩,r2⟩
 unfold zon
 by_cases e:y=x
 ·subst e;rw[Go.Maps.atKey_put_same h2 (Tryz.mapKeyed.key (ziF hx)),Go.Maps.has_put_same h2 (Tryz.mapKeyed.key (ziF hx)),Zm rfl];exact⟨rfl,rfl⟩
 ·rw[Go.Maps.atKey_put_other (by intro h;cases h;exact e rfl),Go.Maps.has_put_other (by intro h;cases h;exact e rfl),Zg e];exact h3 y hy
theorem zaH{ops:Array Oper}{rest:List Oper}{o:Oper}{a:Act}{Q:Exit->Act->World->Prop}(hg:o.guard=none)(m x v:Operand)
 (hop:o.op=.insert 115 m x v){G:Int->Option Value}(hm:a.eval m=.map (some b)){y:Int}(hx:a.eval x=.int .i64 y){u:Value}(hv:a.eval v=u)(h:zli w b n G)(hy:I64 y)(hn:n<maxLen)
 (hK:∀w',zli w' b (n+1) (zon G y u)->w.grownBy w' (some b)->wpList Tryz.prog ops Q rest (a.put o.dst undef) w'):wpList Tryz.prog ops Q (o::rest) a w:=by
 refine wpList_plain hg fun K' hK'=>?_
 obtain⟨w',hrun,r1,r2⟩:=h.put hy hn u;unfold Oper.wp;simp[execOp,hop,hm,hx,hv,hrun,Result.andThen];exact hK' _ _ (hK w' r1 r2)
def zs3(po pn:Nat):Int->Option Value:=
 zon (zon (zon (zon (zon (zon (zon (fun _=>none)
  1 (.func (.func 116) #[] #[.pointer (some ⟨po,0,none⟩),.pointer (some ⟨pn,0,none⟩)]))
  2 (.func (.func 118) #[] #[.pointer (some ⟨po,0,none⟩),.pointer (some ⟨pn,0,none⟩)]))
  3 (.func (.func 113) #[] #[.pointer (some ⟨pn,0,none⟩)]))
  4 (.func (.func 113) #[] #[.pointer (some ⟨pn,0,none⟩)]))
  5 (.func (.func 115) #[] #[.pointer (some ⟨pn,0,none⟩)]))
  6 (.func (.func 115) #[] #[.pointer (some ⟨pn,0,none⟩)]))
  7 (.func (.func 119) #[] #[.pointer (some ⟨pn,0,none⟩)])
structure zsE (w:World) (M po pn:Nat):Prop where
 fm:zli w M 7 (zs3 po pn)
 fo:zeK w po 110
 fn:zeK w pn 111
theorem zsE.below{M po pn:Nat}(h:zsE w M po pn)(hb:Below w.heap.size w w'):zsE w' M po pn:=⟨h.fm.kept hb,h.fo.below hb,h.fn.below hb⟩
attribute [local go_sem] run_store_func
theorem zkk(w:World):Calls Tryz.prog 82 #[] w fun e w'=>(∃M po pn,e=.returned (.map (some M))/\zsE w' M po pn)/\Below w.heap.size w w':=by
 have hmm:= @run_makeMap Tryz.prog;have hmf:∀(fn:Fn) (first cap:Array Value) (w:World),(Instr.makeFunc fn first cap).run Tryz.prog w=.ok (.func fn first cap) w:=fun _ _ _ _=>rfl
 go_enter Tryz.func82,Tryz.ntmps82
 go_upto_region 5 with fail
 have hb1:=blA w (.cells #[.func (.func 110) #[] #[]] 143);have hb2:Below w.heap.size w ((w.alloc (.cells #[.func (.func 110) #[] #[]] 143)).alloc (.cells #[.func (.func 111) #[] #[]] 144)):=hb1.alloc Yc _;have ho:zeK ((w.alloc (.cells #[.func (.func 110) #[] #[]] 143)).alloc (.cells #[.func (.func 111) #[] #[]] 144)) w.heap.size 110:=
  zeK.below (w:=w.alloc (.cells #[.func (.func 110) #[] #[]] 143)) ⟨by rw[World.cell?_alloc_at _ _ _ _ rfl];rfl,Yc⟩ ((Ze _ _).alloc (Za _) _)
 have hn:zeK ((w.alloc (.cells #[.func (.func 110) #[] #[]] 143)).alloc (.cells #[.func (.func 111) #[] #[]] 144)) (w.heap.size+1) 111:=
  ⟨by rw[World.cell?_alloc_at _ _ _ _ Yc];rfl,Yc⟩
 generalize(w.alloc (.cells #[.func (.func 110) #[] #[]] 143)).alloc (.cells #[.func (.func 111) #[] #[]] 144)=W at *;obtain⟨HB,HO,HN⟩:=hd3 hb2 ho hn;have h0:=zli.made W;have hg0:=blA W (.map #[] 0);clear hb1 hb2 ho hn
 go_wp2_with (refine zaH rfl _ _ _ rfl rfl rfl rfl h0 Xj Yf ?_)
 intro w1 h1 g1;clear h0
 go_wp2_with (refine zaH rfl _ _ _ rfl rfl rfl rfl h1 Xj Yf ?_)
 intro w2 h2 g2;clear h1
 go_wp2_with (refine zaH rfl _ _ _ rfl rfl rfl rfl h2 Xj Yf ?_)
 intro w3 h3 g3;clear h2
 go_wp2_with (refine zaH rfl _ _ _ rfl rfl rfl rfl h3 Xj Yf ?_)
 intro w4 h4 g4;clear h3
 go_wp2_with (refine zaH rfl _ _ _ rfl rfl rfl rfl h4 Xj Yf ?_)
 intro w5 h5 g5;clear h4
 go_wp2_with (refine zaH rfl _ _ _ rfl rfl rfl rfl h5 Xj Yf ?_)
 intro w6 h6 g6;clear h5
 go_wp2_with (refine zaH rfl _ _ _ rfl rfl rfl rfl h6 Xj Yf ?_)
 intro w7 h7 g7;clear h6;have hall:Below W.heap.size W w7:=by
  have e:∀{a b:World},Below W.heap.size W a->a.grownBy b (some W.heap.size)->Below W.heap.size W b:=fun ha hg=>ha.grown hg ha.size (fun k h=>by cases h;exact Za _)
  exact e (e (e (e (e (e (e hg0 g1) g2) g3) g4) g5) g6) g7
 obtain⟨HA,H7⟩:=hd2 hall h7;clear hall h7 g1 g2 g3 g4 g5 g6 g7 hg0;go_wp2;go_ret;exact⟨⟨_,_,_,rfl,H7.out,HO.out.below HA.out,HN.out.below HA.out⟩,HB.out.trans (HA.out.mono HB.out.size)⟩
