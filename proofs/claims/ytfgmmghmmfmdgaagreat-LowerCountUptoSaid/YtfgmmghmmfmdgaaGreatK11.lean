/-
  Contracts of the functions that the statement reaches: ModF.
-/
import Derived.Test.YtfgmmghmmfmdgaaGreatK10
import Derived.Test.YtfgmmghmmfmdgaaGreatK8
import Derived.Maps.OwnSet
set_option linter.all false
set_option maxRecDepth 100000
set_option maxHeartbeats 3200000
namespace Go.Proofs.YtfgmmghmmfmdgaaGreat
open Go.RowKit
open Go.Lib (hid)
theorem run_store_func (P:Program) (w:World) (a:Addr) (m:Mode) (fn:Fn) (f c:Array Value):(store a (.func fn f c) m).run P w=stored P w a (.func fn f c) m:=run_store P w a _ m rfl
def selfElem (v:Value):Option (DataW Value × List MemPlace):=some (.held v,[])
theorem Tryz.zeroCond (w:World):(zeroValue 118).run Tryz.prog w=.ok .nilFunc w:=by kernel_rfl
def FunM (w:World) (b n:Nat) (G:Int->Option Value):Prop:=∃ D:DataW Value,w.ownsMap Tryz.prog 3 selfElem b n D/\Go.Maps.IsMap D/\∀ x,I64 x->D.atKey (.int .i64 x) (.held .nilFunc)=.held ((G x).getD .nilFunc)/\Go.Maps.has D (.int .i64 x)=(G x).isSome
def putG (G:Int->Option Value) (x:Int) (v:Value):Int->Option Value:=fun y=>if y=x then some v else G y
theorem FunM.made (w:World):FunM (w.alloc (.map #[] 0)) w.heap.size 0 (fun _=>none):=⟨.map [],World.ownsMap_made _ _ _ _,Go.Maps.isMap_empty,fun x _=>⟨rfl,rfl⟩⟩
theorem FunM.kept {w w':World} {b n:Nat} {G:Int->Option Value} (h:FunM w b n G) (hb:Below w.heap.size w w'):FunM w' b n G:=by
 obtain ⟨D,h1,h2,h3⟩:=h;exact ⟨D,h1.kept (row:=none) ⟨hb.os,hb.tape,hb.output,hb.size,fun k hk _=>hb.block k hk⟩ (by simp),h2,h3⟩
theorem FunM.look {w:World} {b n:Nat} {G:Int->Option Value} (h:FunM w b n G) {x:Int} (hx:I64 x):
  (Instr.lookup 115 (.map (some b)) (.int .i64 x) true).run Tryz.prog w=.ok (.tuple #[(G x).getD .nilFunc,.bool (G x).isSome]) w:=by
 obtain ⟨D,h1,h2,h3⟩:=h;obtain ⟨v,ps,hrun,hv⟩:=h1.look_ok Tryz.mapKeyed Tryz.underlying115 (Tryz.zeroCond w) (zd:=.held .nilFunc) (zp:=[]) rfl (key_int hx);rw [(h3 x hx).1] at hv;rw [(h3 x hx).2] at hrun;unfold selfElem at hv;simp only [Option.some.injEq,Prod.mk.injEq,DataW.held.injEq] at hv;rw [hrun,hv.1]
theorem FunM.put {w:World} {b n:Nat} {G:Int->Option Value} (h:FunM w b n G) {x:Int} (hx:I64 x) (hn:n < maxLen) (v:Value):∃ w',(Instr.mapUpdate 115 (.map (some b)) (.int .i64 x) v).run Tryz.prog w=.ok () w'/\FunM w' b (n+1) (putG G x v)/\w.grownBy w' (some b):=by
 obtain ⟨D,h1,h2,h3⟩:=h;obtain ⟨w',hrun,r1,r2⟩:=h1.update Tryz.mapKeyed Tryz.underlying115 hn (key_int hx) (val:=v) (d:=.held v) (ps:=[]) rfl
 refine ⟨w',hrun,⟨_,r1,Go.Maps.IsMap.put h2 _ _,fun y hy=>?_⟩,r2⟩
 unfold putG
 by_cases e:y=x
 ·subst e;rw [Go.Maps.atKey_put_same h2 (Tryz.mapKeyed.key (key_int hx)),Go.Maps.has_put_same h2 (Tryz.mapKeyed.key (key_int hx)),if_pos rfl];exact ⟨rfl,rfl⟩
 ·rw [Go.Maps.atKey_put_other (by intro h;cases h;exact e rfl),Go.Maps.has_put_other (by intro h;cases h;exact e rfl),if_neg e];exact h3 y hy
theorem wpList_set_fun {w:World} {ops:Array Oper} {rest:List Oper} {o:Oper} {a:Act} {Q:Exit->Act->World->Prop} (hg:o.guard=none) (m x v:Operand)
  (hop:o.op=.insert 115 m x v) {b n:Nat} {G:Int->Option Value} (hm:a.eval m=.map (some b)) {y:Int} (hx:a.eval x=.int .i64 y) {u:Value} (hv:a.eval v=u) (h:FunM w b n G) (hy:I64 y) (hn:n < maxLen)
  (hK:∀ w',FunM w' b (n+1) (putG G y u)->w.grownBy w' (some b)->wpList Tryz.prog ops Q rest (a.put o.dst undef) w'):wpList Tryz.prog ops Q (o::rest) a w:=by
 refine wpList_plain hg fun K' hK'=>?_
 obtain ⟨w',hrun,r1,r2⟩:=h.put hy hn u;unfold Oper.wp;simp [execOp,hop,hm,hx,hv,hrun,Result.andThen];exact hK' _ _ (hK w' r1 r2)
def tabG (po pn:Nat):Int->Option Value:=
 putG (putG (putG (putG (putG (putG (putG (fun _=>none)
  1 (.func (.func 116) #[] #[.pointer (some ⟨po,0,none⟩),.pointer (some ⟨pn,0,none⟩)]))
  2 (.func (.func 118) #[] #[.pointer (some ⟨po,0,none⟩),.pointer (some ⟨pn,0,none⟩)]))
  3 (.func (.func 113) #[] #[.pointer (some ⟨pn,0,none⟩)]))
  4 (.func (.func 113) #[] #[.pointer (some ⟨pn,0,none⟩)]))
  5 (.func (.func 115) #[] #[.pointer (some ⟨pn,0,none⟩)]))
  6 (.func (.func 115) #[] #[.pointer (some ⟨pn,0,none⟩)]))
  7 (.func (.func 119) #[] #[.pointer (some ⟨pn,0,none⟩)])
structure TabM (w:World) (M po pn:Nat):Prop where
 fm:FunM w M 7 (tabG po pn)
 fo:FCell w po 110
 fn:FCell w pn 111
theorem TabM.below {w w':World} {M po pn:Nat} (h:TabM w M po pn) (hb:Below w.heap.size w w'):TabM w' M po pn:=⟨h.fm.kept hb,h.fo.below hb,h.fn.below hb⟩
attribute [local go_sem] run_store_func
theorem mConditions (w:World):Calls Tryz.prog 82 #[] w fun e w'=>(∃ M po pn,e=.returned (.map (some M))/\TabM w' M po pn)/\Below w.heap.size w w':=by
 have hmm:= @run_makeMap Tryz.prog;have hmf:∀ (fn:Fn) (first cap:Array Value) (w:World),(Instr.makeFunc fn first cap).run Tryz.prog w=.ok (.func fn first cap) w:=fun _ _ _ _=>rfl
 go_enter Tryz.func82,Tryz.ntmps82
 go_upto_region 5 with fail
 have hb1:=blA w (.cells #[.func (.func 110) #[] #[]] 143);have hb2:Below w.heap.size w ((w.alloc (.cells #[.func (.func 110) #[] #[]] 143)).alloc (.cells #[.func (.func 111) #[] #[]] 144)):=hb1.alloc (by simp) _;have ho:FCell ((w.alloc (.cells #[.func (.func 110) #[] #[]] 143)).alloc (.cells #[.func (.func 111) #[] #[]] 144)) w.heap.size 110:=
  FCell.below (w:=w.alloc (.cells #[.func (.func 110) #[] #[]] 143)) ⟨by rw [World.cell?_alloc_at _ _ _ _ rfl];rfl,by simp⟩ ((Below.refl _ _).alloc (Nat.le_refl _) _)
 have hn:FCell ((w.alloc (.cells #[.func (.func 110) #[] #[]] 143)).alloc (.cells #[.func (.func 111) #[] #[]] 144)) (w.heap.size+1) 111:=
  ⟨by rw [World.cell?_alloc_at _ _ _ _ (by simp)];rfl,by simp⟩
 generalize (w.alloc (.cells #[.func (.func 110) #[] #[]] 143)).alloc (.cells #[.func (.func 111) #[] #[]] 144)=W at *;obtain ⟨HB,HO,HN⟩:=hd3 hb2 ho hn;have h0:=FunM.made W;have hg0:=blA W (.map #[] 0);clear hb1 hb2 ho hn
 go_wp2_with (refine wpList_set_fun rfl _ _ _ rfl rfl rfl rfl h0 (by unfold I64;omega) (by unfold maxLen;omega) ?_)
 intro w1 h1 g1;clear h0
 go_wp2_with (refine wpList_set_fun rfl _ _ _ rfl rfl rfl rfl h1 (by unfold I64;omega) (by unfold maxLen;omega) ?_)
 intro w2 h2 g2;clear h1
 go_wp2_with (refine wpList_set_fun rfl _ _ _ rfl rfl rfl rfl h2 (by unfold I64;omega) (by unfold maxLen;omega) ?_)
 intro w3 h3 g3;clear h2
 go_wp2_with (refine wpList_set_fun rfl _ _ _ rfl rfl rfl rfl h3 (by unfold I64;omega) (by unfold maxLen;omega) ?_)
 intro w4 h4 g4;clear h3
 go_wp2_with (refine wpList_set_fun rfl _ _ _ rfl rfl rfl rfl h4 (by unfold I64;omega) (by unfold maxLen;omega) ?_)
 intro w5 h5 g5;clear h4
 go_wp2_with (refine wpList_set_fun rfl _ _ _ rfl rfl rfl rfl h5 (by unfold I64;omega) (by unfold maxLen;omega) ?_)
 intro w6 h6 g6;clear h5
 go_wp2_with (refine wpList_set_fun rfl _ _ _ rfl rfl rfl rfl h6 (by unfold I64;omega) (by unfold maxLen;omega) ?_)
 intro w7 h7 g7;clear h6;have hall:Below W.heap.size W w7:=by
  have e:∀ {a b:World},Below W.heap.size W a->a.grownBy b (some W.heap.size)->Below W.heap.size W b:=fun ha hg=>ha.grown hg ha.size (fun k h=>by cases h;exact Nat.le_refl _)
  exact e (e (e (e (e (e (e hg0 g1) g2) g3) g4) g5) g6) g7
 obtain ⟨HA,H7⟩:=hd2 hall h7;clear hall h7 g1 g2 g3 g4 g5 g6 g7 hg0;go_wp2;go_ret;exact ⟨⟨_,_,_,rfl,H7.out,HO.out.below HA.out,HN.out.below HA.out⟩,HB.out.trans (HA.out.mono HB.out.size)⟩
end Go.Proofs.YtfgmmghmmfmdgaaGreat
