/-
  Contracts of the functions that the statement reaches: LinR, LinQ.
-/
import Derived.Test.YtfgmmghmmfmdgaaGreatX36
set_option linter.all false
set_option maxRecDepth 100000
set_option maxHeartbeats 3200000
namespace Go.Proofs.YtfgmmghmmfmdgaaGreat
open Go.RowKit
open Go.Lib (hid)
def WinsF (w:World) (L:List (List Int)) (e:Ending) (w':World):Prop:=∃ a c,e=.returned (.slice a L.length c)/\Intss w' (fun b=>w.heap.size<=b) a L/\Below w.heap.size w w'
def WnG (F:Nat->Prop) (V:Nat->Value) (A:List (List Int)) (n:Nat) (e1 e2 e3:Value) (i:Nat) (v:Value) (w:World):Prop:=
 match i with
 | 24=>∃ a c,v=.tuple #[.slice a n c,e1,e2,e3]/\Intss w F a A
 | 25=>∃ a c,v=.tuple #[.slice a n c,e1,e2,e3]/\Intss w F a A
 | 26=>∃ a c,v=.slice a n c/\Intss w F a A
 | 27=>v=e1
 | 28=>v=e2
 | 29=>v=e3
 | 30=>∃ a c,v=.slice a n c/\Intss w F a A
 | 31=>v=e1
 | 32=>v=e2
 | 33=>v=e3
 | i=>v=V i
theorem WnG_below {F:Nat->Prop} {V:Nat->Value} {A:List (List Int)} {n:Nat} {e1 e2 e3:Value} {i:Nat} {v:Value} {w w':World} (h:WnG F V A n e1 e2 e3 i v w) (hb:Below w.heap.size w w'):WnG F V A n e1 e2 e3 i v w':=by
 unfold WnG at h ⊢
 split at h
 ·obtain ⟨a,c,e,k⟩:=h;exact ⟨a,c,e,k.below hb⟩
 ·obtain ⟨a,c,e,k⟩:=h;exact ⟨a,c,e,k.below hb⟩
 ·obtain ⟨a,c,e,k⟩:=h;exact ⟨a,c,e,k.below hb⟩
 ·exact h
 ·exact h
 ·exact h
 ·obtain ⟨a,c,e,k⟩:=h;exact ⟨a,c,e,k.below hb⟩
 ·exact h
 ·exact h
 ·exact h
 ·exact h
theorem lWindows {w:World} {gL:Nat} {S:LowV} {sh:List Int} {F:Nat->Prop} (hL:LoBox w gL S) (h1:sh.length=S.nS) (hS:Ints w F S.aS sh):
  Calls Tryz.prog 90 #[.pointer (some ⟨gL,0,none⟩)] w (WinsF w (windowsL sh S.kh S.kw S.st S.pd).1):=by
 have HSB:=hid hL;have HWn:Hid (∀ X,Below w.heap.size w X->Calls Tryz.prog 131 #[.slice S.aS S.nS S.cS,.int .i64 S.kh,.int .i64 S.kw,.int .i64 S.st,.int .i64 S.pd] X (WinPost X sh S.kh S.kw S.st S.pd)):=fun X hb=>by
  have h:=tWin S.cS S.kh S.kw S.st S.pd (hS.below hb);rw [h1] at h;exact h
 clear hS hL h1;generalize hwl:(windowsL sh S.kh S.kw S.st S.pd)=WL;have HWl:=hid hwl;clear hwl
 go_enter Tryz.func90,Tryz.ntmps90
 go_upto_region 1 with fail
 obtain ⟨A,hA⟩:∃ A,A=WL.1:=⟨_,rfl⟩
 obtain ⟨e1,he1⟩:∃ e1,e1=Value.int .i64 WL.2.1:=⟨_,rfl⟩
 obtain ⟨e2,he2⟩:∃ e2,e2=Value.int .i64 WL.2.2.1:=⟨_,rfl⟩
 obtain ⟨e3,he3⟩:∃ e3,e3=Value.int .i64 WL.2.2.2:=⟨_,rfl⟩
 have HE:=hid (And.intro hA (And.intro he1 (And.intro he2 he3)));clear hA he1 he2 he3
 refine wp_region_slots_all (by kernel_rfl) (by kernel_rfl) (by kernel_rfl) (AllJ w (WnG (fun b=>w.heap.size<=b) (fun i=>match i with | 0=>.pointer (some ⟨gL,0,none⟩) | 1=>.pointer (some ⟨gL,0,none⟩) | 2=>.pointer (some ⟨gL,9,none⟩) | 3=>.slice S.aS S.nS S.cS | 4=>.pointer (some ⟨gL,0,none⟩) | 5=>.pointer (some ⟨gL,0,none⟩) | 6=>.pointer (some ⟨gL,0,none⟩) | 7=>.pointer (some ⟨gL,3,none⟩) | 8=>.int .i64 S.kh | 9=>.pointer (some ⟨gL,0,none⟩) | 10=>.pointer (some ⟨gL,0,none⟩) | 11=>.pointer (some ⟨gL,0,none⟩) | 12=>.pointer (some ⟨gL,4,none⟩) | 13=>.int .i64 S.kw | 14=>.pointer (some ⟨gL,0,none⟩) | 15=>.pointer (some ⟨gL,0,none⟩) | 16=>.pointer (some ⟨gL,0,none⟩) | 17=>.pointer (some ⟨gL,5,none⟩) | 18=>.int .i64 S.st | 19=>.pointer (some ⟨gL,0,none⟩) | 20=>.pointer (some ⟨gL,0,none⟩) | 21=>.pointer (some ⟨gL,0,none⟩) | 22=>.pointer (some ⟨gL,6,none⟩) | 23=>.int .i64 S.pd | _=>.bool false) A A.length e1 e2 e3)) (fun g=>AllJ.start g) ?_ ?_
 ·intro ops;simp only [ShowsJ]
  refine ⟨?v0,?_,?_,?_,?v4,?_,?_,?_,?_,?v9,?_,?_,?_,?_,?v14,?_,?_,?_,?_,?v19,?_,?_,?_,?_,?_,?_,?_,?v27,?v28,?v29,?_,?_,?_,?_,trivial⟩
  all_goals (intro d g W hJ hd hW;have hJB:=hJ.be;obtain ⟨f0,f1,f2,f3,f4,f5,f6,f7,f8,f9,f10,f11,f12,ff,glt⟩:=HSB.out.below hJ.be;simp only [Waits,Region.binds,forall_const,Bool.false_eq_true,false_implies,and_true,true_and] at hW)
  case v0|v4|v9|v14|v19=>
   simp [fillFrom,Act.put];have HJ:=hid hJ;clear hJ hd hW;go_wp2
   first | refine ⟨_,rfl,?_⟩ | refine ⟨rfl,_,?_⟩ | skip
   exact HJ.out.here (fun i v w w' h hb=>WnG_below h hb) rfl
  case v27|v28|v29=>
   have h25:d 25=true:=by simp only [hW]
   have J25:=hJ.all 25 h25;simp only [WnG] at J25;simp [fillFrom,Act.put];generalize hg25:g 25=y25;rw [hg25] at J25;obtain ⟨a7,c7,rfl,H7⟩:=J25;have HJ:=hid hJ;clear hJ hd hW h25;clear H7;go_wp2
   first | refine ⟨_,rfl,?_⟩ | refine ⟨rfl,_,?_⟩ | skip
   exact HJ.out.here (fun i v w w' h hb=>WnG_below h hb) rfl
  ·have h0:d 0=true:=by simp only [hW]
   have J0:=hJ.all 0 h0;simp only [WnG] at J0;simp [fillFrom,Act.put];generalize hg0:g 0=y0;rw [hg0] at J0;obtain rfl:=J0;have HJ:=hid hJ;clear hJ hd hW h0;go_wp2
   first | refine ⟨_,rfl,?_⟩ | refine ⟨rfl,_,?_⟩ | skip
   exact HJ.out.here (fun i v w w' h hb=>WnG_below h hb) rfl
  ·have h1:d 1=true:=by simp only [hW]
   have J1:=hJ.all 1 h1;simp only [WnG] at J1;simp [fillFrom,Act.put];generalize hg1:g 1=y1;rw [hg1] at J1;obtain rfl:=J1;have HJ:=hid hJ;clear hJ hd hW h1;go_wp2
   first | refine ⟨_,rfl,?_⟩ | refine ⟨rfl,_,?_⟩ | skip
   exact HJ.out.here (fun i v w w' h hb=>WnG_below h hb) rfl
  ·have h2:d 2=true:=by simp only [hW]
   have J2:=hJ.all 2 h2;simp only [WnG] at J2;simp [fillFrom,Act.put];generalize hg2:g 2=y2;rw [hg2] at J2;obtain rfl:=J2;have HJ:=hid hJ;clear hJ hd hW h2;go_wp2
   first | refine ⟨_,rfl,?_⟩ | refine ⟨rfl,_,?_⟩ | skip
   exact HJ.out.here (fun i v w w' h hb=>WnG_below h hb) rfl
  ·have h4:d 4=true:=by simp only [hW]
   have J4:=hJ.all 4 h4;simp only [WnG] at J4;simp [fillFrom,Act.put];generalize hg4:g 4=y4;rw [hg4] at J4;obtain rfl:=J4;have HJ:=hid hJ;clear hJ hd hW h4;go_wp2
   first | refine ⟨_,rfl,?_⟩ | refine ⟨rfl,_,?_⟩ | skip
   exact HJ.out.here (fun i v w w' h hb=>WnG_below h hb) rfl
  ·have h5:d 5=true:=by simp only [hW]
   have J5:=hJ.all 5 h5;simp only [WnG] at J5;simp [fillFrom,Act.put];generalize hg5:g 5=y5;rw [hg5] at J5;obtain rfl:=J5;have HJ:=hid hJ;clear hJ hd hW h5;go_wp2
   first | refine ⟨_,rfl,?_⟩ | refine ⟨rfl,_,?_⟩ | skip
   exact HJ.out.here (fun i v w w' h hb=>WnG_below h hb) rfl
  ·have h6:d 6=true:=by simp only [hW]
   have J6:=hJ.all 6 h6;simp only [WnG] at J6;simp [fillFrom,Act.put];generalize hg6:g 6=y6;rw [hg6] at J6;obtain rfl:=J6;have HJ:=hid hJ;clear hJ hd hW h6;go_wp2
   first | refine ⟨_,rfl,?_⟩ | refine ⟨rfl,_,?_⟩ | skip
   exact HJ.out.here (fun i v w w' h hb=>WnG_below h hb) rfl
  ·have h7:d 7=true:=by simp only [hW]
   have J7:=hJ.all 7 h7;simp only [WnG] at J7;simp [fillFrom,Act.put];generalize hg7:g 7=y7;rw [hg7] at J7;obtain rfl:=J7;have HJ:=hid hJ;clear hJ hd hW h7;go_wp2
   first | refine ⟨_,rfl,?_⟩ | refine ⟨rfl,_,?_⟩ | skip
   exact HJ.out.here (fun i v w w' h hb=>WnG_below h hb) rfl
  ·have h9:d 9=true:=by simp only [hW]
   have J9:=hJ.all 9 h9;simp only [WnG] at J9;simp [fillFrom,Act.put];generalize hg9:g 9=y9;rw [hg9] at J9;obtain rfl:=J9;have HJ:=hid hJ;clear hJ hd hW h9;go_wp2
   first | refine ⟨_,rfl,?_⟩ | refine ⟨rfl,_,?_⟩ | skip
   exact HJ.out.here (fun i v w w' h hb=>WnG_below h hb) rfl
  ·have h10:d 10=true:=by simp only [hW]
   have J10:=hJ.all 10 h10;simp only [WnG] at J10;simp [fillFrom,Act.put];generalize hg10:g 10=y10;rw [hg10] at J10;obtain rfl:=J10;have HJ:=hid hJ;clear hJ hd hW h10;go_wp2
   first | refine ⟨_,rfl,?_⟩ | refine ⟨rfl,_,?_⟩ | skip
   exact HJ.out.here (fun i v w w' h hb=>WnG_below h hb) rfl
  ·have h11:d 11=true:=by simp only [hW]
   have J11:=hJ.all 11 h11;simp only [WnG] at J11;simp [fillFrom,Act.put];generalize hg11:g 11=y11;rw [hg11] at J11;obtain rfl:=J11;have HJ:=hid hJ;clear hJ hd hW h11;go_wp2
   first | refine ⟨_,rfl,?_⟩ | refine ⟨rfl,_,?_⟩ | skip
   exact HJ.out.here (fun i v w w' h hb=>WnG_below h hb) rfl
  ·have h12:d 12=true:=by simp only [hW]
   have J12:=hJ.all 12 h12;simp only [WnG] at J12;simp [fillFrom,Act.put];generalize hg12:g 12=y12;rw [hg12] at J12;obtain rfl:=J12;have HJ:=hid hJ;clear hJ hd hW h12;go_wp2
   first | refine ⟨_,rfl,?_⟩ | refine ⟨rfl,_,?_⟩ | skip
   exact HJ.out.here (fun i v w w' h hb=>WnG_below h hb) rfl
  ·have h14:d 14=true:=by simp only [hW]
   have J14:=hJ.all 14 h14;simp only [WnG] at J14;simp [fillFrom,Act.put];generalize hg14:g 14=y14;rw [hg14] at J14;obtain rfl:=J14;have HJ:=hid hJ;clear hJ hd hW h14;go_wp2
   first | refine ⟨_,rfl,?_⟩ | refine ⟨rfl,_,?_⟩ | skip
   exact HJ.out.here (fun i v w w' h hb=>WnG_below h hb) rfl
  ·have h15:d 15=true:=by simp only [hW]
   have J15:=hJ.all 15 h15;simp only [WnG] at J15;simp [fillFrom,Act.put];generalize hg15:g 15=y15;rw [hg15] at J15;obtain rfl:=J15;have HJ:=hid hJ;clear hJ hd hW h15;go_wp2
   first | refine ⟨_,rfl,?_⟩ | refine ⟨rfl,_,?_⟩ | skip
   exact HJ.out.here (fun i v w w' h hb=>WnG_below h hb) rfl
  ·have h16:d 16=true:=by simp only [hW]
   have J16:=hJ.all 16 h16;simp only [WnG] at J16;simp [fillFrom,Act.put];generalize hg16:g 16=y16;rw [hg16] at J16;obtain rfl:=J16;have HJ:=hid hJ;clear hJ hd hW h16;go_wp2
   first | refine ⟨_,rfl,?_⟩ | refine ⟨rfl,_,?_⟩ | skip
   exact HJ.out.here (fun i v w w' h hb=>WnG_below h hb) rfl
  ·have h17:d 17=true:=by simp only [hW]
   have J17:=hJ.all 17 h17;simp only [WnG] at J17;simp [fillFrom,Act.put];generalize hg17:g 17=y17;rw [hg17] at J17;obtain rfl:=J17;have HJ:=hid hJ;clear hJ hd hW h17;go_wp2
   first | refine ⟨_,rfl,?_⟩ | refine ⟨rfl,_,?_⟩ | skip
   exact HJ.out.here (fun i v w w' h hb=>WnG_below h hb) rfl
  ·have h19:d 19=true:=by simp only [hW]
   have J19:=hJ.all 19 h19;simp only [WnG] at J19;simp [fillFrom,Act.put];generalize hg19:g 19=y19;rw [hg19] at J19;obtain rfl:=J19;have HJ:=hid hJ;clear hJ hd hW h19;go_wp2
   first | refine ⟨_,rfl,?_⟩ | refine ⟨rfl,_,?_⟩ | skip
   exact HJ.out.here (fun i v w w' h hb=>WnG_below h hb) rfl
  ·have h20:d 20=true:=by simp only [hW]
   have J20:=hJ.all 20 h20;simp only [WnG] at J20;simp [fillFrom,Act.put];generalize hg20:g 20=y20;rw [hg20] at J20;obtain rfl:=J20;have HJ:=hid hJ;clear hJ hd hW h20;go_wp2
   first | refine ⟨_,rfl,?_⟩ | refine ⟨rfl,_,?_⟩ | skip
   exact HJ.out.here (fun i v w w' h hb=>WnG_below h hb) rfl
  ·have h21:d 21=true:=by simp only [hW]
   have J21:=hJ.all 21 h21;simp only [WnG] at J21;simp [fillFrom,Act.put];generalize hg21:g 21=y21;rw [hg21] at J21;obtain rfl:=J21;have HJ:=hid hJ;clear hJ hd hW h21;go_wp2
   first | refine ⟨_,rfl,?_⟩ | refine ⟨rfl,_,?_⟩ | skip
   exact HJ.out.here (fun i v w w' h hb=>WnG_below h hb) rfl
  ·have h22:d 22=true:=by simp only [hW]
   have J22:=hJ.all 22 h22;simp only [WnG] at J22;simp [fillFrom,Act.put];generalize hg22:g 22=y22;rw [hg22] at J22;obtain rfl:=J22;have HJ:=hid hJ;clear hJ hd hW h22;go_wp2
   first | refine ⟨_,rfl,?_⟩ | refine ⟨rfl,_,?_⟩ | skip
   exact HJ.out.here (fun i v w w' h hb=>WnG_below h hb) rfl
  ·have h3:d 3=true:=by simp only [hW]
   have h8:d 8=true:=by simp only [hW]
   have h13:d 13=true:=by simp only [hW]
   have h18:d 18=true:=by simp only [hW]
   have h23:d 23=true:=by simp only [hW]
   have J3:=hJ.all 3 h3;have J8:=hJ.all 8 h8;have J13:=hJ.all 13 h13;have J18:=hJ.all 18 h18;have J23:=hJ.all 23 h23;simp only [WnG] at J3 J8 J13 J18 J23;simp [fillFrom,Act.put];generalize hg3:g 3=y3;rw [hg3] at J3;generalize hg8:g 8=y8;rw [hg8] at J8;generalize hg13:g 13=y13;rw [hg13] at J13;generalize hg18:g 18=y18;rw [hg18] at J18;generalize hg23:g 23=y23;rw [hg23] at J23;obtain rfl:=J3;obtain rfl:=J8;obtain rfl:=J13;obtain rfl:=J18;obtain rfl:=J23;have HJ:=hid hJ;clear hJ hd hW h3 h8 h13 h18 h23;have HCt:=hid (HWn.out W hJB)
   go_wp2_with fail
   refine HCt.out.mono ?_
   rintro e w1 ⟨a',c',rfl,hI,kb⟩;have KB:=hid kb;rw [HWl.out] at hI ⊢;obtain ⟨hA,he1,he2,he3⟩:=HE.out;rw [<- hA] at hI ⊢;rw [<- he1, <- he2, <- he3];have HI:=hid (hI.mono (fun b _ h=>Nat.le_trans hJB.size h));clear hI hA he1 he2 he3;clear kb HCt;go_wp2
   first | exact ⟨_,rfl,HJ.out.step (fun i v w w' h hb=>WnG_below h hb) KB.out ⟨_,_,rfl,HI.out⟩⟩ | exact HJ.out.step (fun i v w w' h hb=>WnG_below h hb) KB.out ⟨_,_,rfl,HI.out⟩
  ·have h24:d 24=true:=by simp only [hW]
   have J24:=hJ.all 24 h24;simp only [WnG] at J24;simp [fillFrom,Act.put];generalize hg24:g 24=y24;rw [hg24] at J24;obtain ⟨a6,c6,rfl,H6⟩:=J24;have HJ:=hid hJ;clear hJ hd hW h24;have K6:=hid H6;clear H6;go_wp2
   first | refine ⟨_,rfl,?_⟩ | refine ⟨rfl,_,?_⟩ | skip
   exact HJ.out.here (fun i v w w' h hb=>WnG_below h hb) ⟨_,_,rfl,K6.out⟩
  ·have h25:d 25=true:=by simp only [hW]
   have J25:=hJ.all 25 h25;simp only [WnG] at J25;simp [fillFrom,Act.put];generalize hg25:g 25=y25;rw [hg25] at J25;obtain ⟨a7,c7,rfl,H7⟩:=J25;have HJ:=hid hJ;clear hJ hd hW h25;have K7:=hid H7;clear H7;go_wp2
   first | refine ⟨_,rfl,?_⟩ | refine ⟨rfl,_,?_⟩ | skip
   exact HJ.out.here (fun i v w w' h hb=>WnG_below h hb) ⟨_,_,rfl,K7.out⟩
  ·have h26:d 26=true:=by simp only [hW]
   have J26:=hJ.all 26 h26;simp only [WnG] at J26;simp [fillFrom,Act.put];generalize hg26:g 26=y26;rw [hg26] at J26;obtain ⟨a8,c8,rfl,H8⟩:=J26;have HJ:=hid hJ;clear hJ hd hW h26;have K8:=hid H8;clear H8;go_wp2
   first | refine ⟨_,rfl,?_⟩ | refine ⟨rfl,_,?_⟩ | skip
   exact HJ.out.here (fun i v w w' h hb=>WnG_below h hb) ⟨_,_,rfl,K8.out⟩
  ·have h27:d 27=true:=by simp only [hW]
   have J27:=hJ.all 27 h27;simp only [WnG] at J27;simp [fillFrom,Act.put];generalize hg27:g 27=y27;rw [hg27] at J27;obtain rfl:=J27;have HJ:=hid hJ;clear hJ hd hW h27;go_wp2
   first | refine ⟨_,rfl,?_⟩ | refine ⟨rfl,_,?_⟩ | skip
   exact HJ.out.here (fun i v w w' h hb=>WnG_below h hb) rfl
  ·have h28:d 28=true:=by simp only [hW]
   have J28:=hJ.all 28 h28;simp only [WnG] at J28;simp [fillFrom,Act.put];generalize hg28:g 28=y28;rw [hg28] at J28;obtain rfl:=J28;have HJ:=hid hJ;clear hJ hd hW h28;go_wp2
   first | refine ⟨_,rfl,?_⟩ | refine ⟨rfl,_,?_⟩ | skip
   exact HJ.out.here (fun i v w w' h hb=>WnG_below h hb) rfl
  ·have h29:d 29=true:=by simp only [hW]
   have J29:=hJ.all 29 h29;simp only [WnG] at J29;simp [fillFrom,Act.put];generalize hg29:g 29=y29;rw [hg29] at J29;obtain rfl:=J29;have HJ:=hid hJ;clear hJ hd hW h29;go_wp2
   first | refine ⟨_,rfl,?_⟩ | refine ⟨rfl,_,?_⟩ | skip
   exact HJ.out.here (fun i v w w' h hb=>WnG_below h hb) rfl
 ·intro d g W hA hJ;have J30:=hJ.all 30 (hA 30 (by decide));have HBe:=hid hJ.be;simp only [WnG] at J30;simp [fillFrom,Act.put];generalize g 30=y30 at J30 ⊢;obtain ⟨a9,c9,rfl,H9⟩:=J30;clear hJ hA;have K9:=hid H9;clear H9;go_wp2;exact bodyPost_ret (v:=.slice a9 A.length c9) (by simp [results,Tryz.results90,go_sem]) rfl (show WinsF w WL.1 _ _ from by rw [<- HE.out.1];exact ⟨a9,c9,rfl,K9.out,HBe.out⟩)
def denseFO (bs ws:List Rat) (x:List AffQ) (r:Nat):AffQ:=sumF (bs.getD r 0) ws (r * x.length) (iotaZ x.length) x x.length
def denseF (k:Nat) (bs ws:List Rat) (x:List AffQ):List AffQ:=(List.range k).map (denseFO bs ws x)
theorem denseF_succ (k:Nat) (bs ws:List Rat) (x:List AffQ):denseF (k+1) bs ws x=denseF k bs ws x++[denseFO bs ws x k]:=by simp [denseF,List.range_succ]
theorem denseF_len (k:Nat) (bs ws:List Rat) (x:List AffQ):(denseF k bs ws x).length=k:=by simp [denseF]
theorem sumF_step {b:Rat} {ws:List Rat} {off k:Nat} {x:List AffQ} (h:k < x.length):sumF b ws off (iotaZ x.length) x (k+1)=addA 1 (sumF b ws off (iotaZ x.length) x k) (scA (ws.getD (off+k) 0) (x.getD k zerA)):=by
 have e:=iotaZ_at h;show (if 0<=(iotaZ x.length).getD k 0 then _ else _)=_
 rw [e,if_pos (by omega)];rfl
theorem lDense {w:World} {gL:Nat} {S:LowV} {bs ws:List Rat} {x:List AffQ} {W C D B N:Nat} (hL:LoBox w gL S) (h1:ws.length=S.n1) (h2:bs.length=S.n2) (h3:x.length=S.nx)
  (hW:RatsAt w S.a1 (ws.map ratL)) (hB:RatsAt w S.a2 (bs.map ratL)) (hX:FormsAt w S.ax x) (hwl:S.n2 * S.nx<=S.n1) (hN1:S.n1<=1000000) (hN2:S.n2<=1000000) (hNx:S.nx<=1000000)
  (bw:BdL W C ws) (bb:BdL W C bs) (hW0:0 < W) (bx:BdFs D B N x) (hD0:0 < D) (hP:Pay (W * D) (C+B+(S.nx+1) * (C * B))) (hN:N<=500000):
  Calls Tryz.prog 55 #[.pointer (some ⟨gL,0,none⟩)] w (RowAf w (denseF S.n2 bs ws x)):=by
 obtain ⟨HW,HBi,HX,H1,H2,H3⟩:=hd6 hW hB hX h1 h2 h3;obtain ⟨Hwl,HSB,HBw,HBb,HBx,HPy⟩:=hd6 hwl hL bw bb bx hP;clear hW hB hX hwl h1 h2 h3 hL bw bb bx hP
 go_enter Tryz.func55,Tryz.ntmps55
 go_upto_region 2 with fail
 obtain ⟨f0,f1,f2,f3,f4,f5,f6,f7,f8,f9,f10,f11,f12,ff,glt⟩:=HSB.out;go_wp2;clear f0 f1 f2 f3 f4 f5 f6 f7 f8 f9 f10 f11 f12 ff glt
 go_loopw [3,15] (fun v i wr=>∃ (r:Nat) (a:Option Addr) (c:Nat),r<=S.n2/\v=.slice a r c/\i=.int .i64 (r:Int)/\Hid (OutF w wr (.slice a r c) (denseF r bs ws x))) (fun _ i _=>S.n2 - (intOf i).toNat)
 case atStart=>exact ⟨0,none,0,Nat.zero_le _,rfl,rfl,OutF.start w⟩
 case round=>
  obtain ⟨r,b0,k0,hr,rfl,rfl,HOut⟩:=hrel;obtain ⟨wq,hwq⟩:∃ wq:World,wq=wr:=⟨_,rfl⟩
  subst hwq
  by_cases hlt:r < S.n2
  ·have hbr:Below w.heap.size w wq:=HOut.out.bl;obtain ⟨bb,ob,u,un,ud,ucn,ucd,hab,hbb,hu,uc0,uc1,uc2,huv⟩:=HBi.out.pick (k:=r) (by rw [List.length_map,H2.out];exact hlt);obtain ⟨hu1,hu2⟩:=map_get hu;have uc0:=(hbr.cell (p:=⟨bb,ob+r * 3,none⟩) hbb).trans uc0;have uc1:=(hbr.cell (p:=⟨bb,ob+r * 3+1,none⟩) hbb).trans uc1;have uc2:=(hbr.cell (p:=⟨bb,ob+r * 3+2,none⟩) hbb).trans uc2;have hbb2:=Nat.lt_of_lt_of_le hbb hbr.size;have hal1:=blA wq (ratO u un ucn ud ucd 51);have ub:=Box3.alloc wq (.bool u.neg) (.slice un u.num.length ucn) (.slice ud u.den.length ucd) 51;obtain ⟨HNum,HOut1,Hu2⟩:=hd3 (lNumber (q:=bs.getD r 0) (show RatV _ _ (ratL (bs.getD r 0)) from by have h:=(huv.below hbr).below hal1;rw [hu2] at h;rw [<- hu2] at h ⊢;exact h)) (HOut.out.below hal1) hu2;rw [hab];clear hu hu1 hu2 huv hbr hal1 hab
   go_upto_region 5 with fail
   generalize wq.alloc (ratO u un ucn ud ucd 51)=Wg at *;clear uc0 uc1 uc2;obtain ⟨u0,u1,u2,uf,ult⟩:=ub
   go_wp2_with fail
   refine HNum.out.mono ?_
   rintro e w5 ⟨v5,rfl,hv,hb⟩;obtain ⟨na,nn,nc,nb,nan,nnn,ncn,nad,nnd,ncd,rfl⟩:=hv.spell;obtain ⟨HOut2,HNF⟩:=hd2 (HOut1.out.below hb) hv.fp;clear HNum hv hb u0 u1 u2 uf ult HOut1;have HAc:=hid (AcF.make (Below.refl w5.heap.size w5) (Below.refl w5.heap.size w5) HNF.out 53);have hbl5:=HAc.out.bl;have HSn:=hid (HSB.out.below (HOut2.out.below hbl5).bl);clear hbl5
   go_upto_region 6 with fail
   generalize w5.alloc (.cells #[.slice na nn nc,.bool nb,.slice nan nnn ncn,.slice nad nnd ncd] 53)=Wh at *;have f10:=HSn.out.f10;have ff:=HSn.out.free;have glt:=HSn.out.lt;go_wp2;clear f10 ff glt
   go_loopw [27] (fun i wi=>∃ k:Nat,k<=S.nx/\i=.int .i64 (k:Int)/\Hid (AcF w5 wi w5.heap.size (sumF (bs.getD r 0) ws (r * S.nx) (iotaZ S.nx) x k))) (fun i _=>S.nx - (intOf i).toNat)
   case atStart=>exact ⟨0,Nat.zero_le _,rfl,HAc.out⟩
   case round=>
    obtain ⟨k,hk,rfl,HI⟩:=hrel
    by_cases hlk:k < S.nx
    ·obtain ⟨p0,hp0⟩:∃ p0,p0=r * S.nx:=⟨_,rfl⟩
     have hmul:p0+k < S.n1:=by
      have e1:(r+1) * S.nx<=S.n2 * S.nx:=Nat.mul_le_mul_right _ hlt;have e2:=Hwl.out;rw [Nat.succ_mul, <- hp0] at e1;omega
     have hbi:Below w.heap.size w wr:=(HOut2.out.below HI.out.bl).bl;obtain ⟨bw,ow,v,vn,vd,vcn,vcd,haw,hbw,hv,wc0,wc1,wc2,hwv⟩:=HW.out.pick (k:=p0+k) (by rw [List.length_map,H1.out];exact hmul);obtain ⟨bx,ox,y,q0,q1,q2,q3,hax,hbx,hyy,yc0,yc1,yc2,yc3,hyv⟩:=HX.out.pick (k:=k) (by rw [H3.out];exact hlk);obtain ⟨ya,yn,yc,yb,yan,ynn,ycn,yad,ynd,ycd,rfl,rfl,rfl,rfl⟩:=hyv.spell;obtain ⟨hv1,hv2⟩:=map_get hv;have hxk:x.getD k zerA=y:=by rw [List.getD_eq_getElem?_getD,hyy];rfl
     obtain ⟨s,hs⟩:∃ s,s=sumF (bs.getD r 0) ws (r * S.nx) (iotaZ S.nx) x k:=⟨_,rfl⟩
     obtain ⟨s1,hs1⟩:∃ s1,s1=sumF (bs.getD r 0) ws (r * S.nx) (iotaZ S.nx) x (k+1):=⟨_,rfl⟩
     obtain ⟨pr,hpr⟩:∃ pr,pr=scA (ws.getD (p0+k) 0) y:=⟨_,rfl⟩
     have hq:addA 1 s pr=s1:=by
      rw [hs,hpr,hs1, <- hxk];have h:=sumF_step (b:=bs.getD r 0) (ws:=ws) (off:=r * S.nx) (k:=k) (x:=x) (by rw [H3.out];exact hlk);rw [H3.out, <- hp0] at h;rw [<- hp0,h]
     have HI1:=HI.out;rw [<- hs] at HI1;have hal:=blA wr (.cells #[.slice ya yn yc,.bool yb,.slice yan ynn ycn,.slice yad ynd ycd] 53);obtain ⟨HI2,HYb,HBj⟩:=hd3 (HI1.below hal) (Box4.alloc wr (.slice ya yn yc) (.bool yb) (.slice yan ynn ycn) (.slice yad ynd ycd) 53) (hbi.trans (hal.mono hbi.size));have HSj:=hid (HSB.out.below HBj.out);have hgl:w5.heap.size < wr.heap.size:=HI1.lt;obtain ⟨HS1,HHs,HHpr,HHv,HHq,Hyb⟩:=hd6 hs1 hs hpr (And.intro hv1 hv2) hq (show BdF D B N y from by rw [<- hxk];exact HBx.out.at hD0 k);have m0:IntKind.i64.wrap ((r:Int) * (S.nx:Int))=(p0:Int):=by
      rw [<- Int.natCast_mul, <- hp0];exact IntWalk.i64_in _ (by omega)
     obtain ⟨hyv',hwv'⟩:=hd2 hyv.val hwv;have uy0:=(hbi.cell (p:=⟨bx,ox+k * 4,none⟩) hbx).trans yc0;have uy1:=(hbi.cell (p:=⟨bx,ox+k * 4+1,none⟩) hbx).trans yc1;have uy2:=(hbi.cell (p:=⟨bx,ox+k * 4+2,none⟩) hbx).trans yc2;have uy3:=(hbi.cell (p:=⟨bx,ox+k * 4+3,none⟩) hbx).trans yc3;have hbx2:=Nat.lt_of_lt_of_le hbx hbi.size;have HHp0:=hid hp0;rw [hax];clear HI1 hv1 hv2 hyy hs hs1 hpr hq hal hv hyv hwv hp0 hbi hxk
     go_upto_region 9 with fail
     generalize wr.alloc (.cells #[.slice ya yn yc,.bool yb,.slice yan ynn ycn,.slice yad ynd ycd] 53)=wj at *;obtain ⟨sa,sn,sc,sb,san,snn,scn,sad,snd,scd,hbxs⟩:=HI2.out.spell;have HSf:=hid hbxs.fm.val;have HMul:Hid (∀ W',Below wj.heap.size wj W'->Calls Tryz.prog 89 #[.agg #[.slice ya yn yc,.bool yb,.slice yan ynn ycn,.slice yad ynd ycd],.agg #[.bool v.neg,.slice vn v.num.length vcn,.slice vd v.den.length vcd]] W' (RetAf W' pr)):=fun W' hb=>by
      have hbw2:=HBj.out.trans (hb.mono HBj.out.size);rw [HHpr.out]
      refine lScale (hyv'.out.below hbw2) (k:=ws.getD (p0+k) 0) (by have h:=hwv'.out.below hbw2;rw [HHv.out.2] at h;rw [<- HHv.out.2] at h ⊢;exact h) (HBw.out.at hW0 _) Hyb.out (HPy.out.le (Nat.le_refl _) ?_) hN
      rw [Nat.succ_mul];omega
     have HAdd:Hid (∀ W',Below wj.heap.size wj W'->∀ z,FormV W' z pr->Calls Tryz.prog 60 #[.agg #[.slice sa sn sc,.bool sb,.slice san snn scn,.slice sad snd scd],z] W' (RetAf W' s1)):=fun W' hb z hz=>by
      rw [<- HHq.out]
      refine lAdd (HSf.out.below hb) hz (B:=C+k * (C * B)) (C:=C * B) (D:=W * D) (N:=N) ?_ ?_ (HPy.out.le (Nat.le_refl _) ?_) hN
      ·rw [HHs.out];exact BdF.sum (HBb.out.at hW0 _) HBw.out HBx.out hD0 _ _ _
      ·rw [HHpr.out];exact BdF.sc (HBw.out.at hW0 _) Hyb.out
      ·have:(k+1) * (C * B)<=S.nx * (C * B):=Nat.mul_le_mul_right _ hlk;rw [Nat.succ_mul] at this ⊢;omega
     have HCe:Hid (∀ W',Below wj.heap.size wj W'->W'.cell? ⟨w5.heap.size,0,none⟩=some (.slice sa sn sc)/\W'.cell? ⟨w5.heap.size,1,none⟩=some (.bool sb)/\W'.cell? ⟨w5.heap.size,2,none⟩=some (.slice san snn scn)/\W'.cell? ⟨w5.heap.size,3,none⟩=some (.slice sad snd scd)/\
       W'.cell? ⟨gL,7,none⟩=some (.slice (some ⟨bw,ow,none⟩) S.n1 S.c1)/\W'.cell? ⟨gL,10,none⟩=some (.slice (some ⟨bx,ox,none⟩) S.nx S.cx)/\
       W'.cell? ⟨bw,ow+(p0+k) * 3,none⟩=some (.bool v.neg)/\W'.cell? ⟨bw,ow+(p0+k) * 3+1,none⟩=some (.slice vn v.num.length vcn)/\W'.cell? ⟨bw,ow+(p0+k) * 3+2,none⟩=some (.slice vd v.den.length vcd)/\
       W'.cell? ⟨wr.heap.size,0,none⟩=some (.slice ya yn yc)/\W'.cell? ⟨wr.heap.size,1,none⟩=some (.bool yb)/\W'.cell? ⟨wr.heap.size,2,none⟩=some (.slice yan ynn ycn)/\W'.cell? ⟨wr.heap.size,3,none⟩=some (.slice yad ynd ycd)):=fun W' hb=>by
      have hbw2:=HBj.out.trans (hb.mono HBj.out.size);have g7:=(HSj.out.below hb).f7;have g10:=(HSj.out.below hb).f10;rw [haw] at g7;rw [hax] at g10;exact ⟨(hb.cell hbxs.bx.lt).trans hbxs.bx.c0,(hb.cell hbxs.bx.lt).trans hbxs.bx.c1,(hb.cell hbxs.bx.lt).trans hbxs.bx.c2,(hb.cell hbxs.bx.lt).trans hbxs.bx.c3,g7,g10,(hbw2.cell hbw).trans wc0,(hbw2.cell hbw).trans wc1,(hbw2.cell hbw).trans wc2,
       (hb.cell HYb.out.lt).trans HYb.out.c0,(hb.cell HYb.out.lt).trans HYb.out.c1,(hb.cell HYb.out.lt).trans HYb.out.c2,(hb.cell HYb.out.lt).trans HYb.out.c3⟩
     have hs0:=hbxs.bx.lt;have hs9:=HYb.out.lt;clear wc0 wc1 wc2 yc0 yc1 yc2 yc3 uy0 uy1 uy2 uy3 hbxs
     refine wp_region_slots_tail 20 (by kernel_rfl) (by kernel_rfl) (by kernel_rfl) (by kernel_rfl) (by decide) (From wj.heap.size wj) (fun w w'=>Below w.heap.size w w') (GQ [.val (.agg #[.slice sa sn sc,.bool sb,.slice san snn scn,.slice sad snd scd]),.val (.agg #[.slice ya yn yc,.bool yb,.slice yan ynn ycn,.slice yad ynd ycd]),.val (.pointer (some ⟨gL,0,none⟩)),.val (.pointer (some ⟨gL,0,none⟩)),.val (.pointer (some ⟨gL,0,none⟩)),.val (.pointer (some ⟨gL,7,none⟩)),.val (.slice (some ⟨bw,ow,none⟩) S.n1 S.c1),.val (.int .i64 (r:Int)),.val (.pointer (some ⟨gL,0,none⟩)),.val (.pointer (some ⟨gL,0,none⟩)),.val (.pointer (some ⟨gL,10,none⟩)),.val (.slice (some ⟨bx,ox,none⟩) S.nx S.cx),.val (.int .i64 (S.nx:Int)),.val (.int .i64 (p0:Int)),.val (.int .i64 (k:Int)),.val (.int .i64 ((p0:Int)+(k:Int))),.val (.pointer (some ⟨bw,ow+(p0+k) * 3,none⟩)),.val (.agg #[.bool v.neg,.slice vn v.num.length vcn,.slice vd v.den.length vcd]),.frm pr,.frm s1]) (fun i v w w' h hb=>GQ_below h hb) (From.start (Nat.le_refl _)) ?_ ?_
     ·intro ops;simp only [List.take_succ_cons,List.take_zero,Shows]
      refine ⟨?v0,?v1,?v2,?v3,?v4,?v5,?v6,?v7,?v8,?v9,?v10,?v11,?v12,?v13,?v14,?v15,?v16,?v17,?_,?_,trivial⟩
      all_goals (intro y' X hR hL;have hB:=hR.base;obtain ⟨x0,x1,x2,x3,f7,f10,wc0,wc1,wc2,yc0,yc1,yc2,yc3⟩:=HCe.out X hR.be;simp only [Laid,Region.binds,forall_const,Bool.false_eq_true,false_implies,GQ,List.getElem?_cons_zero,List.getElem?_cons_succ] at hL;simp [fillFrom,Act.put])
      case v0|v1|v2|v3|v4|v5|v6|v7|v8|v9|v10|v11|v12|v13|v14|v15|v16|v17=>
       try simp only [hL]
       clear hL;have HR:=hid hR;clear hR;go_wp2;exact ⟨_,rfl,HR.out,Below.refl _ _,rfl⟩
      ·try simp only [hL]
       clear hL;have HR:=hid hR;clear hR;have HCt:=hid (HMul.out X HR.out.be)
       go_wp2_with fail
       refine HCt.out.mono ?_
       rintro e w1 ⟨v1,rfl,kv,kb⟩;obtain ⟨KV,KB⟩:=hd2 kv kb;clear kv kb HCt;go_wp2;exact ⟨_,rfl,⟨Nat.le_trans HR.out.base KB.out.size,HR.out.be.trans (KB.out.mono HR.out.base)⟩,KB.out,KV.out⟩
      ·generalize y' 0=y0 at hL ⊢;generalize y' 18=y18 at hL ⊢;obtain ⟨rfl,H18,_,_⟩:=hL;obtain ⟨K18,HR⟩:=hd2 H18 hR;clear hR H18;have HCt:=hid (HAdd.out X HR.out.be _ K18.out)
       go_wp2_with fail
       refine HCt.out.mono ?_
       rintro e w1 ⟨v1,rfl,kv,kb⟩;obtain ⟨KV,KB⟩:=hd2 kv kb;clear kv kb HCt;go_wp2;exact ⟨_,rfl,⟨Nat.le_trans HR.out.base KB.out.size,HR.out.be.trans (KB.out.mono HR.out.base)⟩,KB.out,KV.out⟩
     ·intro ops y' X hR hL;have hB:=hR.base;have J19:=hL.2;simp only [GQ,List.getElem?_cons_zero,List.getElem?_cons_succ] at J19;obtain ⟨x0,x1,x2,x3,f7,f10,wc0,wc1,wc2,yc0,yc1,yc2,yc3⟩:=HCe.out X hR.be;clear hL;simp only [List.take_succ_cons,List.take_zero,List.drop_succ_cons,List.drop_zero];simp [fillFrom,Act.put];generalize y' 19=y19 at J19 ⊢;have HR:=hid hR;clear hR;obtain ⟨ra,rn,rc,rb,ran,rnn,rcn,rad,rnd,rcd,rfl⟩:=J19.spell;have HBe:=hid (show Below wj.heap.size wj X from HR.out.be);have HStep:=hid (HI2.out.step HBe.out J19.fp);obtain ⟨_,_,_,_,hbz⟩:=(HI2.out.below HBe.out).ex;obtain ⟨z0,z1,z2,z3,zf,zlt⟩:=hbz.bx;clear J19 hbz;go_wp2;go_roundw
      case rel=>exact ⟨k+1,hlk,by go_num,by rw [<- HS1.out];exact HStep.out⟩
      case measure=>simp [intOf];omega
    ·obtain rfl:k=S.nx:=by omega
     obtain ⟨s,hs⟩:∃ s,s=denseFO bs ws x r:=⟨_,rfl⟩
     have hbx:AcF w5 wr w5.heap.size s:=by
      have h:=HI.out;rw [hs,show denseFO bs ws x r=sumF (bs.getD r 0) ws (r * S.nx) (iotaZ S.nx) x S.nx by unfold denseFO;rw [H3.out]];exact h
     have HStep:Hid _:=denseF_succ r bs ws x;rw [<- hs] at HStep;obtain ⟨sa,sn,sc,sb,san,snn,scn,sad,snd,scd,hbxs⟩:=hbx.spell;have HRow:=hid (One4.form hbxs.fm 53);obtain ⟨x0,x1,x2,x3,_,xlt⟩:=hbxs.bx;obtain ⟨HOw,HLn⟩:=hd2 ((HOut2.out.below hbx.bl).below ((Below.refl wr.heap.size wr).alloc (Nat.le_refl _) (.cells #[.slice sa sn sc,.bool sb,.slice san snn scn,.slice sad snd scd] 53))) (denseF_len r bs ws x);clear hbx hbxs hs
     go_wp2_with (at_builtin;refine wpList_app4 (T:=53) formK (.slice none 0 0) (.bool false) (.slice none 0 0) (.slice none 0 0) 80 (by intro u hu;simp at hu;rcases hu with rfl | rfl | rfl | rfl <;> rfl) rfl (.tmp 53) (.tmp 55) 28 rfl w.heap.size Tryz.underlying28 (by kernel_rfl) (by omega) (.slice b0 r k0) r _ HLn.out rfl HOw.out.own _ s HRow.out rfl (by omega) HOw.out.bl.size ?_;intro b3 k3 w3 hown hk3 hg hbe hnx;have HOut3:=hid (show OutF w w3 (.slice b3 (r+1) k3) (denseF (r+1) bs ws x) from ⟨by rw [HStep.out];exact hown,HOw.out.bl.trans hbe⟩);clear hown hg hbe hnx)
     go_roundw
     case rel=>exact ⟨r+1,b3,k3,hlt,rfl,by go_num,HOut3.out⟩
     case measure=>simp [intOf];omega
  ·obtain rfl:r=S.n2:=by omega
   go_wp2;exact bodyPost_ret (v:=.slice b0 S.n2 k0) (by simp [results,Tryz.results55,go_sem]) rfl (HOut.out.ret (denseF_len S.n2 bs ws x))
end Go.Proofs.YtfgmmghmmfmdgaaGreat
