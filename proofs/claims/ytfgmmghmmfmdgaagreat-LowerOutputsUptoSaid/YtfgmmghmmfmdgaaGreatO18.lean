/-
  Contracts: ModI.
-/
import Derived.Test.YtfgmmghmmfmdgaaGreatO14
import Derived.Deep.DrawnRows
import Derived.Test.YtfgmmghmmfmdgaaGreatO0
set_option linter.all false
set_option maxRecDepth 100000
set_option maxHeartbeats 3200000
namespace Go.Proofs.YtfgmmghmmfmdgaaGreat
open Go.RowKit
open Go.Lib (hid)
theorem zk7{W w1:World}{g p:Nat}{p0 p1 p2 p3 p4 p5 p6 p7 p8 q0 q1:Value}(hg:zow W g p0 p1 p2 p3 p4 p5 p6 p7 p8)(hh:za1 W p q0 q1)(hb:Below W.heap.size W w1):
  w1.cell? ⟨g,2,none⟩=some p2/\w1.cell? ⟨g,7,none⟩=some p7/\w1.cell? ⟨p,0,none⟩=some q0/\w1.cell? ⟨p,1,none⟩=some q1:=
 ⟨(hb.cell hg.lt).trans hg.c2,(hb.cell hg.lt).trans hg.c7,(hb.cell hh.lt).trans hh.c0,(hb.cell hh.lt).trans hh.c1⟩
structure ztu (w W:World) (g:Nat) (q0 q1 p0 p1 p2 p3 p4 p5 p6 p7 p8:Value):Prop where
 a:za1 W g q0 q1
 b:zow W (g+1) p0 p1 p2 p3 p4 p5 p6 p7 p8
 bl:Below g w W
theorem ztu.mk'(w:World)(q0 q1 p0 p1 p2 p3 p4 p5 p6 p7 p8:Value)(T T':Nat):ztu w ((w.alloc (.cells #[q0,q1] T)).alloc (.cells #[p0,p1,p2,p3,p4,p5,p6,p7,p8] T')) w.heap.size q0 q1 p0 p1 p2 p3 p4 p5 p6 p7 p8:=by
 refine⟨(za1.alloc w q0 q1 T).below ((Ze _ _).alloc (Za _) _),?_,((Ze _ _).alloc (Za _) _).alloc Yc _⟩
 have:=zow.alloc (w.alloc (.cells #[q0,q1] T)) p0 p1 p2 p3 p4 p5 p6 p7 p8 T'
 simpa using this
abbrev pbl(w:World)(a:Option Addr)(n:List Int)(c:Nat)(b:Option Addr)(S:List (List Int))(d:Nat)(l:zac)(x:Option Addr)(i:Nat)(y:Option Addr)(j T U:Nat):=ztu.mk' w (.slice a n.length c) (.slice b S.length d) (.int .i64 l.kind) (.int .i64 l.frm) (.int .i64 l.out) (.int .i64 l.kh) (.int .i64 l.kw) (.int .i64 l.stride) (.int .i64 l.pad) (.slice x l.weights.length i) (.slice y l.bias.length j) T U
theorem zsM{w:World}{v u:Value}{input:List Int}{S:List (List Int)}{l:zac}(hv:zcw w v input S)(hu:zcV w u l)(ho1:1<=l.out)(ho2:l.out<=16384)(hc:zk (zh input S)=true):
  Calls Tryz.prog 123 #[v,u] w fun e w'=>(∃g,e=.returned (.tuple #[.slice (some ⟨g,0,none⟩) 1 1,.bool (decide ((l.weights.length:Int)=l.out*zt (zh input S)))])/\w'.cell? ⟨g,0,none⟩=some (.int .i64 l.out)/\g<w'.heap.size)/\Below w.heap.size w w':=by
 obtain⟨ai,ci,hin,hcall⟩:=pIn hv;obtain⟨a,b,c,d,rfl,h1,h2⟩:=hv.ex;obtain⟨b1,b2,d1,d2,rfl,r1,r2⟩:=hu.ex;have q1:=h1.len;have q2:=h2.len;have q3:=r1.len;have q4:=r2.len;have hsz:=zae hc;obtain⟨HIn,HCall⟩:=hd2 hin hcall;obtain⟨z1,z2⟩:=hsz;have m1:1<=l.out*zt (zh input S)/\l.out*zt (zh input S)<=268435456:=zfk ho1 ho2 z1 z2;obtain⟨m2,m3⟩:=m1;generalize hR:decide ((l.weights.length:Int)=l.out*zt (zh input S))=R;obtain⟨P,hP⟩:∃P,l.out*zt (zh input S)=P:=⟨_,rfl⟩
 have HM:Hid (1<=P/\P<=268435456):=by rw[<- hP];exact⟨m2,m3⟩
 have m4:IntKind.i64.wrap (l.out*zt (zh input S))=P:=by rw[<- hP];exact IntWalk.i64_in _ Ya
 have HR:=hid hR;have hR2:((l.weights.length:Int)==P)=R:=by rw[<- hR,<- hP];rfl
 clear hv hu h1 h2 r1 r2 hin hcall hc hP m2 m3 hR
 go_enter Tryz.func123,Tryz.ntmps123
 go_upto_region 1 with fail
 have hT:=pbl w a input c b S d l b1 d1 b2 d2 122 44;generalize(w.alloc (.cells #[.slice a input.length c,.slice b S.length d] 122)).alloc (zbG l b1 d1 b2 d2 44)=W at *;have HT:=hid hT;have xbl:Below W.heap.size W W.drew:=(Ze _ _).drew;have HC2:Hid (∀w',Below W.heap.size W w'->Calls Tryz.prog 126 #[.agg #[.slice a input.length c,.slice b S.length d]] w' fun e w''=>e=.returned (.slice ai (zh input S).length ci)/\Below W.heap.size W w''/\Below w'.heap.size w' w''):=
  fun w' hb=>(HCall.out w' (HT.out.bl.trans (hb.mono Xg))).mono fun e w'' ⟨h1,h2⟩=>⟨h1,hb.trans (h2.mono hb.size),h2⟩
 have HZ:Hid (∀w',Below W.heap.size W w'->Calls Tryz.prog 31 #[.slice ai (zh input S).length ci] w' fun e w''=>e=.returned (.int .i64 (zt (zh input S)))/\w'=w''):=
  fun w' hb=>znR ci (HIn.out.below (HT.out.bl.trans (hb.mono Xg)))
 clear hT HCall
 go_region_held3 (fun w'=>w'.cell? ⟨w.heap.size+1,2,none⟩=some (.int .i64 l.out)/\w'.cell? ⟨w.heap.size+1,7,none⟩=some (.slice b1 l.weights.length d1)/\w'.cell? ⟨w.heap.size,0,none⟩=some (.slice a input.length c)/\w'.cell? ⟨w.heap.size,1,none⟩=some (.slice b S.length d))
  (first|exact zk7 HT.out.b HT.out.a YS|exact zk7 HT.out.b HT.out.a (Below.alloc YS Y4 _))
  (first
   | (go_at_call 126; refine (HC2.out _ ?hb).mono ?_
      case hb=>first|assumption|exact Below.alloc YS Y4 _
      rintro e w1 ⟨rfl,p3,p4⟩)
   | (go_at_call 31; refine (HZ.out _ ?hb2).mono ?_
      case hb2=>first|assumption|exact Below.alloc YS Y4 _
      rintro e w1 ⟨rfl,rfl⟩))
 ·go_wp2
  go_ret2
  refine⟨⟨_,rfl,?_,?_⟩,HT.out.bl.trans (p3.mono Xg)⟩
  ·exact(p4.cell (p:=⟨W.heap.size,0,none⟩) Yc).trans (by show(W.alloc _).cell? ⟨W.heap.size,0,none⟩=_;rw[World.cell?_alloc_at _ _ _ _ rfl];rfl)
  ·have:=p4.size;simp at this;omega
 all_goals
  go_wp2
  go_ret2
  exact⟨⟨_,rfl,by rw[World.cell?_alloc_at _ _ _ _ rfl];rfl,Yc⟩,(HT.out.bl.trans (p3.mono Xg)).alloc (by have:=HT.out.b.lt;have:=p3.size;omega) _⟩
