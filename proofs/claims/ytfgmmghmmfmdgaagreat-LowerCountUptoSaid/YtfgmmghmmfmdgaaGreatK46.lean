/-
  Contracts of the functions that the statement reaches: LjJ.
-/
import Derived.Test.YtfgmmghmmfmdgaaGreatK45
set_option linter.all false
set_option maxRecDepth 100000
set_option maxHeartbeats 3200000
namespace Go.Proofs.YtfgmmghmmfmdgaaGreat
open Go.RowKit
open Go.Lib (hid)
theorem gz_alloc (w:World) (T:Nat):w.heap.size < (w.alloc (.cells #[.int .i64 0,.slice none 0 0,.slice none 0 0] T)).heap.size/\(∀ i,(w.alloc (.cells #[.int .i64 0,.slice none 0 0,.slice none 0 0] T)).frozen? ⟨w.heap.size,i,none⟩=false)/\
  (w.alloc (.cells #[.int .i64 0,.slice none 0 0,.slice none 0 0] T)).cell? ⟨w.heap.size,0,none⟩=some (.int .i64 0)/\(w.alloc (.cells #[.int .i64 0,.slice none 0 0,.slice none 0 0] T)).cell? ⟨w.heap.size,1,none⟩=some (.slice none 0 0)/\(w.alloc (.cells #[.int .i64 0,.slice none 0 0,.slice none 0 0] T)).cell? ⟨w.heap.size,2,none⟩=some (.slice none 0 0):=
 ⟨by simp,fun i=>World.frozen?_alloc_new _ _ _ _,by rw [World.cell?_alloc_at _ _ _ _ rfl];rfl,by rw [World.cell?_alloc_at _ _ _ _ rfl];rfl,by rw [World.cell?_alloc_at _ _ _ _ rfl];rfl⟩
structure GBox (w W:World) (g:Nat) (p0 p1 p2:Value):Prop where
 c0:W.cell? ⟨g,0,none⟩=some p0
 c1:W.cell? ⟨g,1,none⟩=some p1
 c2:W.cell? ⟨g,2,none⟩=some p2
 free:∀ i,W.frozen? ⟨g,i,none⟩=false
 lt:g < W.heap.size
 ge:w.heap.size<=g
 al:AllB isZF W g
theorem GBox.belowB {w W W':World} {g B:Nat} {p0 p1 p2:Value} (h:GBox w W g p0 p1 p2) (hb:Below B W W') (hg:g < B):GBox w W' g p0 p1 p2:=
 ⟨(hb.cell (p:=⟨g,0,none⟩) hg).trans h.c0,(hb.cell (p:=⟨g,1,none⟩) hg).trans h.c1,(hb.cell (p:=⟨g,2,none⟩) hg).trans h.c2,fun i=>(hb.frozen (p:=⟨g,i,none⟩) hg).trans (h.free i),Nat.lt_of_lt_of_le h.lt hb.size,h.ge,h.al.belowB hb hg⟩
theorem GBox.below {w W W':World} {g:Nat} {p0 p1 p2:Value} (h:GBox w W g p0 p1 p2) (hb:Below W.heap.size W W'):GBox w W' g p0 p1 p2:=h.belowB hb h.lt
theorem below_store3g {w W:World} {g:Nat} (hb:Below w.heap.size w W) (hg:w.heap.size<=g) (p0 p1 p2:Value):Below w.heap.size w (((W.setCell ⟨g,0,none⟩ p0).setCell ⟨g,1,none⟩ p1).setCell ⟨g,2,none⟩ p2):=
 ((hb.setCell (p:=⟨g,0,none⟩) hg _).setCell (p:=⟨g,1,none⟩) hg _).setCell (p:=⟨g,2,none⟩) hg _
def LastCut (W1:World) (s:List Int) (s7:Value) (wx:World):Prop:=W1=wx/\∃ a c n,s7=.slice a n c/\n=s.length/\Ints W1 Any a s
def TrcP (w1:World) (gG gL n k:Nat) (S:LowV) (U:List AffQ) (Y:List (List AffQ)) (ax:Option Addr) (X:List AffQ) (v:Value) (W:World):Prop:=∃ b c,v=.slice b (k+2) c/\LwB w1 gG gL n W S.fn U (.slice b (k+2) c) (Y++[X]) ax X
def VarP (w1:World) (gG gL n k:Nat) (S:LowV) (v:Value) (W:World):Prop:=∃ b c,v=.slice b (k+1) c/\FOwn gG W (gL+1) (.slice b (k+1) c) (varsF (k+1))/\LwB w1 gG gL n W S.fn [] (.slice none 0 0) [] b (varsF (k+1))
theorem lowPost_err {w W:World} {R:GraphQ × Int} {e:Int} {g:Nat} (h:R=(emptyG,e)) (hb:Below w.heap.size w W) (hg:w.heap.size<=g):
  LowPost w R (.returned (.tuple #[.agg #[.int .i64 0,.slice none 0 0,.slice none 0 0],.int .i64 e])) (((W.setCell ⟨g,0,none⟩ (.int .i64 0)).setCell ⟨g,1,none⟩ (.slice none 0 0)).setCell ⟨g,2,none⟩ (.slice none 0 0)):=by
 subst h;exact ⟨_,rfl,graph_zero _,below_store3g hb hg _ _ _⟩
attribute [local go_sem] run_storeF
theorem lLower {w:World} {m:ModL} {a1 a2:Option Addr} (c1 c2:Nat) (h1:Ints w Any a1 m.input) (h2:LaysAt w a2 m.layers) (hr:∀ l ∈ m.layers,LayRange l) (hs:∀ l ∈ m.layers,LayLe l) (hsm:∀ l ∈ m.layers,SmallL l) (hl12:m.layers.length<=12):
  Calls Tryz.prog 12 #[.agg #[.slice a1 m.input.length c1,.slice a2 m.layers.length c2]] w (LowPost w (lowerL m)):=by
 have q1:=h1.len;have q2:=h2.len;obtain ⟨H1,H2,HRg,HSh,HSm⟩:=hd5 h1 h2 hr hs hsm;generalize hR:lowerL m=RR;unfold lowerL at hR;have HRd:=hid hR;clear h1 h2 hr hs hR hsm
 go_enter Tryz.func12,Tryz.ntmps12
 go_upto_region 1 with fail
 have hb0:=blA w (.cells #[.slice a1 m.input.length c1,.slice a2 m.layers.length c2] 25);have hx:=Box2.alloc w (.slice a1 m.input.length c1) (.slice a2 m.layers.length c2) 25;have hs0:(w.alloc (.cells #[.slice a1 m.input.length c1,.slice a2 m.layers.length c2] 25)).heap.size=w.heap.size+1:=by simp
 generalize w.alloc (.cells #[.slice a1 m.input.length c1,.slice a2 m.layers.length c2] 25)=W0 at *;have hb1:=blA W0 (.cells #[.int .i64 0,.slice none 0 0,.slice none 0 0] 30);obtain ⟨z1,z2,z3,z4,z5⟩:=gz_alloc W0 30;have hgb:GBox w (W0.alloc (.cells #[.int .i64 0,.slice none 0 0,.slice none 0 0] 30)) (w.heap.size+1) (.int .i64 0) (.slice none 0 0) (.slice none 0 0):=by
  rw [<- hs0];exact ⟨z3,z4,z5,z2,z1,by omega,AllB.of_heap (heap_alloc_new W0 _) (by intro u hu;simp at hu;rcases hu with rfl | rfl | rfl <;> rfl)⟩
 have hx:=hx.below hb1;have hbw:Below w.heap.size w (W0.alloc (.cells #[.int .i64 0,.slice none 0 0,.slice none 0 0] 30)):=hb0.trans (hb1.mono (by omega));generalize W0.alloc (.cells #[.int .i64 0,.slice none 0 0,.slice none 0 0] 30)=W at *;clear hb0 hb1 z1 z2 z3 z4 z5 hs0;obtain ⟨HB0,HX,HGb⟩:=hd3 hbw hx hgb;clear hbw hgb;obtain ⟨x0,x1,xf,xlt⟩:=hx
 go_wp2_with fail
 refine (sOf c1 c2 (H1.out.below HB0.out) (H2.out.below HB0.out) HRg.out HSh.out).mono ?_
 rintro e w1 ⟨⟨aS,cS,rfl,hI⟩,hb1⟩;obtain ⟨HX1,HG1⟩:=hd2 (HX.out.below hb1) (HGb.out.below hb1);have HB1:=htr HB0 hb1;clear hb1 x0 x1 xf xlt HGb HX HB0
 by_cases he:(shapesL m).2.2=0
 ·have HCO:=hid (CntOK.of he)
  rcases shapesL_cases m with ⟨_,k⟩ | ⟨hvm,⟨T,hch,hT⟩ | ⟨k,_⟩⟩
  ·rw [k] at he;simp at he
  ·rw [hT] at hI HRd HCO ⊢;rw [if_pos rfl] at HRd;simp only at hI HRd HCO ⊢;obtain ⟨HI,HCh,HTl⟩:=hd3 hI hch hch.1;have hT64:T.length<=64:=by rw [HCO.out.len];exact HCO.out.few
   obtain ⟨HSz,HCn⟩:=hd2 (fun X (hb:Below w1.heap.size w1 X)=>tSize c1 ((H1.out.below HB1.out).below hb)) (fun X (hb:Below w1.heap.size w1 X)=>lCnt c2 cS ((H2.out.below HB1.out).below hb) (hI.below hb) HCO.out);obtain ⟨x0,x1,xf,xlt⟩:=HX1.out;have hvi:validL m.input=true:=by
    unfold validM at hvm;simp only [Bool.and_eq_true] at hvm;exact hvm.1
   have hin:=validL_size hvi;have HVi:=hid hvi;clear he hI hch hT hvm hvi;obtain ⟨last,hlast⟩:∃ last,last=currL m.input T:=⟨_,rfl⟩
   obtain ⟨HLast,HSi⟩:=hd2 hlast ((H1.out.below HB1.out).mono (F':=Any) (fun _ _ _=>trivial));clear hlast
   go_upto_if 27 with fail
   go_cut [7] (fun s7 wx=>LastCut w1 last s7 wx)
   case first=>
    by_cases hT0:T.length=0
    ·have q0:decide ((0:Int) < (T.length:Int))=false:=decide_eq_false (by omega);have E:Hid (last=m.input):=by
      unfold Hid;rw [HLast.out,List.eq_nil_of_length_eq_zero hT0];rfl
     go_wp2
     go_meet
     exact ⟨rfl,a1,c1,_,rfl,by rw [E.out],by rw [E.out];exact HSi.out⟩
    ·have q0:decide ((0:Int) < (T.length:Int))=true:=decide_eq_true (by omega);obtain ⟨nT,hnT⟩:∃ nT,nT=T.length - 1:=⟨_,rfl⟩
     obtain ⟨bT,oT,t,aT,ct,haT,tc0,hTi,htc,hIt,hbT,_⟩:=HI.out.pickc (k:=nT) (by omega);have E:Hid (last=t):=by
      unfold Hid;rw [HLast.out];unfold currL;rw [List.getLast?_eq_getElem?, <- hnT,hTi];rfl
     have HIt:=hid (hIt.mono (F':=Any) (fun _ _ _=>trivial));have m0:(T.length:Int) - 1=(nT:Int):=by omega
     have hnl:nT < T.length:=by omega
     subst haT;clear hIt hTi htc hnT;go_wp2
     go_meet
     exact ⟨rfl,aT,ct,_,rfl,by rw [E.out],by rw [E.out];exact HIt.out⟩
   case rest=>
    obtain ⟨rfl,aL,cL,nL,rfl,hnL,hIL⟩:=hcut;subst hnL;obtain ⟨HSz1,HCn1⟩:=hd2 (HSz.out w1 (Below.refl _ _)) (HCn.out w1 (Below.refl _ _));have HRd2:=HRd.out;rw [<- HLast.out] at HRd2;obtain ⟨nin,hnin⟩:∃ nin,nin=sizeL m.input:=⟨_,rfl⟩
    obtain ⟨nun,hnun⟩:∃ nun,nun=cntL m.layers T:=⟨_,rfl⟩
    obtain ⟨nout,hnout⟩:∃ nout,nout=sizeL last:=⟨_,rfl⟩
    have HSzL:=hid (fun X (hb:Below w1.heap.size w1 X)=>tSize cL (hIL.below hb));rw [<- hnin] at HSz1 HRd2 hin;rw [<- hnun] at HCn1 HRd2;rw [<- hnout] at HSzL HRd2;obtain ⟨HRd3,HNin,HNun,HNout⟩:=hd4 HRd2 hnin hnun hnout;clear HRd HRd2 hnin hnun hnout HCn hIL;obtain ⟨g0,g1,g2,gf,glt,gge,_⟩:=HG1.out
    by_cases ha:256 < nin
    ·have qa:decide ((256:Int) < nin)=true:=decide_eq_true ha;have HF:Hid (RR=(emptyG,8)):=by
      have h:=HRd3.out;rw [if_pos (.inl ha)] at h;exact h.symm
     clear ha HRd3
     go_wp2_with fail
     refine HSz1.out.mono ?_
     rintro e w2 ⟨rfl,rfl⟩;go_wp2
     refine bodyPost_ret (v:=.tuple #[.agg #[.int .i64 0,.slice none 0 0,.slice none 0 0],.int .i64 8]) (by simp [results,Tryz.results12,go_sem,g0,g1,g2]) rfl ?_
     exact lowPost_err HF.out HB1.out gge
    ·have qa:decide ((256:Int) < nin)=false:=decide_eq_false ha
     go_wp2_with fail
     refine HSz1.out.mono ?_
     rintro e w2 ⟨rfl,rfl⟩
     go_wp2_with fail
     refine HCn1.out.mono ?_
     rintro e w2 ⟨rfl,hb2⟩;obtain ⟨HSzL2,HSz2⟩:=hd2 (HSzL.out w2 hb2) (HSz.out w2 hb2);rw [<- HNin.out] at HSz2;have HB2:=htr HB1 hb2;obtain ⟨HG2,HX2,HI2,HSi2⟩:=hd4 (HG1.out.below hb2) (HX1.out.below hb2) (HI.out.below hb2) (HSi.out.below hb2);clear hb2 x0 x1 xf xlt HSzL HSz HSz1 HCn1 HI HSi HX1 HG1 HB1 g0 g1 g2 gf glt gge;obtain ⟨x0,x1,xf,xlt⟩:=HX2.out;obtain ⟨g0,g1,g2,gf,glt,gge,_⟩:=HG2.out
     by_cases hb:1024 < nun
     ·have qb:decide ((1024:Int) < nun)=true:=decide_eq_true hb;have HF:Hid (RR=(emptyG,8)):=by
       have h:=HRd3.out;rw [if_pos (.inr (.inl hb))] at h;exact h.symm
      clear hb HRd3;go_wp2
      refine bodyPost_ret (v:=.tuple #[.agg #[.int .i64 0,.slice none 0 0,.slice none 0 0],.int .i64 8]) (by simp [results,Tryz.results12,go_sem,g0,g1,g2]) rfl ?_
      exact lowPost_err HF.out HB2.out gge
     ·have qb:decide ((1024:Int) < nun)=false:=decide_eq_false hb
      go_wp2_with fail
      refine HSzL2.out.mono ?_
      rintro e w3 ⟨rfl,rfl⟩
      by_cases hc:256 < nout
      ·have qc:decide ((256:Int) < nout)=true:=decide_eq_true hc;have HF:Hid (RR=(emptyG,8)):=by
        have h:=HRd3.out;rw [if_pos (.inr (.inr hc))] at h;exact h.symm
       clear hc HRd3;go_wp2
       refine bodyPost_ret (v:=.tuple #[.agg #[.int .i64 0,.slice none 0 0,.slice none 0 0],.int .i64 8]) (by simp [results,Tryz.results12,go_sem,g0,g1,g2]) rfl ?_
       exact lowPost_err HF.out HB2.out gge
      ·have qc:decide ((256:Int) < nout)=false:=decide_eq_false hc;have HRd4:=HRd3.out;rw [if_neg (by omega)] at HRd4;obtain ⟨HRd5,HUn1⟩:=hd2 HRd4 (show nun<=1024 by omega);clear HRd3 HRd4
       go_upto_region 9 with fail
       obtain ⟨nI,rfl⟩:=Int.eq_ofNat_of_zero_le (show 0<=nin by omega);have hnI:1<=nI/\nI<=256:=by omega
       have HNI:=hid hnI;clear qa qb qc ha hb hc hin
       go_wp2_with fail
       refine HSz2.out.mono ?_
       rintro e w3 ⟨rfl,rfl⟩;have hgs:=HG2.out.lt;have HL3:=hid (LSt.make w2 nI 30);have b3:=blA w2 (.cells #[.int .i64 (nI:Int),.slice none 0 0,.slice none 0 0] 30);have hs3:(w2.alloc (.cells #[.int .i64 (nI:Int),.slice none 0 0,.slice none 0 0] 30)).heap.size=w2.heap.size+1:=by simp
       obtain ⟨HX3,HB3,HS3⟩:=hd3 (HX2.out.below b3) b3 hs3;clear b3 hs3 HSz2 HSzL2 x0 x1 xf xlt g0 g1 g2 gf glt gge
       go_upto_region 10 with fail
       generalize w2.alloc (.cells #[.int .i64 (nI:Int),.slice none 0 0,.slice none 0 0] 30)=W3 at *;obtain ⟨gG,hgG⟩:∃ gG,gG=w2.heap.size:=⟨_,rfl⟩
       rw [<- hgG] at HL3 HB3;obtain ⟨S0,hS0⟩:∃ S0:LowV,S0=⟨0,0,0,0,0,0,0,none,0,0,none,0,0,a1,m.input.length,c1,none,0,0,none,0,0,.nilFunc⟩:=⟨_,rfl⟩
       have hmk:=LwB.make (w1:=w2) HL3.out HB3.out S0 (by rw [hS0];rfl) 73 [] ⟨Row4.nil _ _,.inl rfl⟩;obtain ⟨gL,hgL⟩:∃ gL,gL=W3.heap.size:=⟨_,rfl⟩
       rw [<- hgL,show S0.cells=#[.int .i64 0,.int .i64 0,.int .i64 0,.int .i64 0,.int .i64 0,.int .i64 0,.int .i64 0,.slice none 0 0,.slice none 0 0,.slice a1 m.input.length c1,.slice none 0 0,.slice none 0 0,.nilFunc] by rw [hS0];rfl] at hmk;have b4:=blA W3 (.cells #[.int .i64 0,.int .i64 0,.int .i64 0,.int .i64 0,.int .i64 0,.int .i64 0,.int .i64 0,.slice none 0 0,.slice none 0 0,.slice a1 m.input.length c1,.slice none 0 0,.slice none 0 0,.nilFunc] 73);obtain ⟨HMk,HX4,HGg,HS0⟩:=hd4 hmk (HX3.out.below b4) hgG hS0;obtain ⟨x0,x1,xf,xlt⟩:=HX3.out;obtain ⟨HGl,HlG⟩:=hd2 hgL (show gL=gG+1 by rw [hgL,HS3.out,hgG]);clear hmk b4 hS0 hgG hgL HX3 HL3 HB3;rw [<- HGg.out]
       go_upto_region 11 with fail
       rw [<- HGl.out];generalize W3.alloc (.cells #[.int .i64 0,.int .i64 0,.int .i64 0,.int .i64 0,.int .i64 0,.int .i64 0,.int .i64 0,.slice none 0 0,.slice none 0 0,.slice a1 m.input.length c1,.slice none 0 0,.slice none 0 0,.nilFunc] 73)=W4 at *;clear x0 x1 xf xlt;have f12:=(LoBox.fn HMk.out.box).f12;rw [show S0.fu=.nilFunc by rw [HS0.out]] at f12;have ff:=(LoBox.fn HMk.out.box).free;have flt:=(LoBox.fn HMk.out.box).lt;have HM1:=hid (HMk.out.fnc (v:=.func (.func 33) #[] #[.pointer (some ⟨gG,0,none⟩)]) rfl)
       go_upto_region 12 with fail
       generalize W4.setCell ⟨gL,12,none⟩ (.func (.func 33) #[] #[.pointer (some ⟨gG,0,none⟩)])=W5 at *;clear f12 ff flt HMk HX4;obtain ⟨S1,hS1⟩:∃ S1,S1=S0.fnc (.func (.func 33) #[] #[.pointer (some ⟨gG,0,none⟩)]):=⟨_,rfl⟩
       rw [<- hS1] at HM1;have HS1:Hid (S1.nums none 0 0=S1/\S1.fu=unitV gG/\S1.aS=a1/\S1.nS=m.input.length/\S1.aT=none/\S1.nT=0/\S1.cT=0):=by
        rw [hS1,HS0.out];exact ⟨rfl,rfl,rfl,rfl,rfl,rfl,rfl⟩
       have hax1:S0.ax=none:=by rw [HS0.out]
       rw [hax1] at HM1;have HM2:Hid (LwB w2 gG gL nI W5 (S1.nums none 0 0).fn [] (.slice none 0 0) [] none (varsF 0)):=by
        rw [HS1.out.1];exact HM1.out
       have g0:=HM1.out.un.g0;have glt:=HM1.out.un.lt;clear hS1 hax1 HM1 HS0;go_wp2;clear g0 glt
       go_loopw [65] (fun i wr=>∃ (k:Nat) (a:Option Addr) (c:Nat),k<=nI/\i=.int .i64 (k:Int)/\Hid (LwB w2 gG gL nI wr (S1.nums a k c).fn [] (.slice none 0 0) [] a (varsF k))/\Hid (FOwn gG wr (gL+1) (.slice a k c) (varsF k))) (fun i _=>nI - (intOf i).toNat)
       case atStart=>exact ⟨0,none,0,Nat.zero_le _,rfl,HM2.out,FOwn.nil _ _ _⟩
       case round=>
        obtain ⟨k,a,c,hk,rfl,HLw,HFo⟩:=hrel
        by_cases hlk:k < nI
        ·have hLr:=HLw.out.un;have HCe:Hid (∀ X,Stp gG wr X->LSt X gG nI []->X.cell? ⟨gL,10,none⟩=some (.slice a k c)/\(∀ i,X.frozen? ⟨gL,i,none⟩=false)/\gL < X.heap.size):=fun X hs hl=>
          ⟨(HLw.out.stp hs hl).box.c 10 (by omega),(HLw.out.stp hs hl).box.free,(HLw.out.stp hs hl).box.lt⟩
         obtain ⟨V,hV⟩:∃ V,V=varA k:=⟨_,rfl⟩
         have HVar:Hid (∀ X,Calls Tryz.prog 34 #[.int .i64 (k:Int)] X (RetAf X V)):=fun X=>by rw [hV];exact lVariable X k
         have HStep:Hid (varsF (k+1)=varsF k++[V]):=by rw [hV];simp [Hid,varsF,List.range_succ]
         have HLk:Hid ((varsF k).length=k):=by simp [Hid,varsF]
         have hk1:=HNI.out.2;have HgL:=hid HLw.out.box.lt;clear hV
         go_upto_region 15 with fail
         refine wp_region_slots_gen 9 (by kernel_rfl) (by kernel_rfl) (by kernel_rfl) (by kernel_rfl) (by decide) (AllV gG nI wr [] [.val (.pointer (some ⟨gL,0,none⟩)),.val (.pointer (some ⟨gL,0,none⟩)),.val (.pointer (some ⟨gL,0,none⟩)),.val (.pointer (some ⟨gL,10,none⟩)),.val (.slice a k c),.val (.int .i64 (k:Int)),.frm V,.onf V] 8 [(2,1),(3,2),(4,3),(6,5),(7,6)] (.pointer (some ⟨gL,0,none⟩)) (VarP w2 gG gL nI k (S1.nums a k c))) (fun g=>AllV.start (by assumption) g) ?_ ?_
         ·intro ops;simp only [List.take_succ_cons,List.take_zero,ShowsJ]
          refine ⟨?_,?_,?_,?_,?_,?_,?_,?_,?_,trivial⟩
          ·intro d y' X hV hd hW;obtain ⟨hp,hJ⟩ | ⟨hp,hal,hPo⟩:=hV.st
           ·obtain ⟨f10,ff,flt⟩:=HCe.out X hJ.st hJ.same;simp only [Waits,Region.binds,forall_const,Bool.false_eq_true,false_implies,and_true,true_and] at hW;have hdeps:∀ q ∈ ([(2,1),(3,2),(4,3),(6,5),(7,6)]:List (Nat × Nat)),q.1=0->d q.2=true:=by simp
            simp [fillFrom,Act.put];obtain ⟨HJ,HV,HP,HD⟩:=hd4 hJ hV hp hdeps;clear hdeps hJ hV hp hd hW;go_wp2
            first | refine ⟨_,rfl,?_⟩ | refine ⟨rfl,_,?_⟩ | skip
            exact HV.out.one (by decide) HD.out (by first | (intro _;rfl) | (intro e;cases e)) HP.out (HJ.out.here (by decide) rfl)
           ·simp [fillFrom,Act.put];obtain ⟨HV,HP,HAl,HPo⟩:=hd4 hV hp hal hPo;clear hV hp hal hPo hd hW;go_wp2
            first | exact ⟨_,rfl,HV.out.late (by decide) (by simp) HP.out HAl.out HPo.out⟩ | exact HV.out.late (by decide) (by simp) HP.out HAl.out HPo.out
          ·intro d y' X hV hd hW;obtain ⟨hp,hJ⟩ | ⟨hp,hal,hPo⟩:=hV.st
           ·obtain ⟨f10,ff,flt⟩:=HCe.out X hJ.st hJ.same;simp only [Waits,Region.binds,forall_const,Bool.false_eq_true,false_implies,and_true,true_and] at hW;have hdeps:∀ q ∈ ([(2,1),(3,2),(4,3),(6,5),(7,6)]:List (Nat × Nat)),q.1=1->d q.2=true:=by simp
            simp [fillFrom,Act.put];obtain ⟨HJ,HV,HP,HD⟩:=hd4 hJ hV hp hdeps;clear hdeps hJ hV hp hd hW;go_wp2
            first | refine ⟨_,rfl,?_⟩ | refine ⟨rfl,_,?_⟩ | skip
            exact HV.out.one (by decide) HD.out (by first | (intro _;rfl) | (intro e;cases e)) HP.out (HJ.out.here (by decide) rfl)
           ·rw [hal 1 (by decide) (by decide)] at hd;cases hd
          ·intro d y' X hV hd hW;obtain ⟨hp,hJ⟩ | ⟨hp,hal,hPo⟩:=hV.st
           ·obtain ⟨f10,ff,flt⟩:=HCe.out X hJ.st hJ.same;simp only [Waits,Region.binds,forall_const,Bool.false_eq_true,false_implies,and_true,true_and] at hW;have h1:d 1=true:=by simp only [hW]
            have hdeps:∀ q ∈ ([(2,1),(3,2),(4,3),(6,5),(7,6)]:List (Nat × Nat)),q.1=2->d q.2=true:=by simp [h1]
            have J1:=hJ.all 1 h1;simp only [GU,List.getElem?_cons_zero,List.getElem?_cons_succ] at J1;simp [fillFrom,Act.put];generalize hg1:y' 1=y1;rw [hg1] at J1;clear hg1;obtain rfl:=J1;obtain ⟨HJ,HV,HP,HD⟩:=hd4 hJ hV hp hdeps;clear hdeps hJ hV hp hd hW h1;go_wp2
            first | refine ⟨_,rfl,?_⟩ | refine ⟨rfl,_,?_⟩ | skip
            exact HV.out.one (by decide) HD.out (by first | (intro _;rfl) | (intro e;cases e)) HP.out (HJ.out.here (by decide) rfl)
           ·rw [hal 2 (by decide) (by decide)] at hd;cases hd
          ·intro d y' X hV hd hW;obtain ⟨hp,hJ⟩ | ⟨hp,hal,hPo⟩:=hV.st
           ·obtain ⟨f10,ff,flt⟩:=HCe.out X hJ.st hJ.same;simp only [Waits,Region.binds,forall_const,Bool.false_eq_true,false_implies,and_true,true_and] at hW;have h2:d 2=true:=by simp only [hW]
            have hdeps:∀ q ∈ ([(2,1),(3,2),(4,3),(6,5),(7,6)]:List (Nat × Nat)),q.1=3->d q.2=true:=by simp [h2]
            have J2:=hJ.all 2 h2;simp only [GU,List.getElem?_cons_zero,List.getElem?_cons_succ] at J2;simp [fillFrom,Act.put];generalize hg2:y' 2=y2;rw [hg2] at J2;clear hg2;obtain rfl:=J2;obtain ⟨HJ,HV,HP,HD⟩:=hd4 hJ hV hp hdeps;clear hdeps hJ hV hp hd hW h2;go_wp2
            first | refine ⟨_,rfl,?_⟩ | refine ⟨rfl,_,?_⟩ | skip
            exact HV.out.one (by decide) HD.out (by first | (intro _;rfl) | (intro e;cases e)) HP.out (HJ.out.here (by decide) rfl)
           ·rw [hal 3 (by decide) (by decide)] at hd;cases hd
          ·intro d y' X hV hd hW;obtain ⟨hp,hJ⟩ | ⟨hp,hal,hPo⟩:=hV.st
           ·obtain ⟨f10,ff,flt⟩:=HCe.out X hJ.st hJ.same;simp only [Waits,Region.binds,forall_const,Bool.false_eq_true,false_implies,and_true,true_and] at hW;have h3:d 3=true:=by simp only [hW]
            have hdeps:∀ q ∈ ([(2,1),(3,2),(4,3),(6,5),(7,6)]:List (Nat × Nat)),q.1=4->d q.2=true:=by simp [h3]
            have J3:=hJ.all 3 h3;simp only [GU,List.getElem?_cons_zero,List.getElem?_cons_succ] at J3;simp [fillFrom,Act.put];generalize hg3:y' 3=y3;rw [hg3] at J3;clear hg3;obtain rfl:=J3;obtain ⟨HJ,HV,HP,HD⟩:=hd4 hJ hV hp hdeps;clear hdeps hJ hV hp hd hW h3;go_wp2
            first | refine ⟨_,rfl,?_⟩ | refine ⟨rfl,_,?_⟩ | skip
            exact HV.out.one (by decide) HD.out (by first | (intro _;rfl) | (intro e;cases e)) HP.out (HJ.out.here (by decide) rfl)
           ·rw [hal 4 (by decide) (by decide)] at hd;cases hd
          ·intro d y' X hV hd hW;obtain ⟨hp,hJ⟩ | ⟨hp,hal,hPo⟩:=hV.st
           ·obtain ⟨f10,ff,flt⟩:=HCe.out X hJ.st hJ.same;simp only [Waits,Region.binds,forall_const,Bool.false_eq_true,false_implies,and_true,true_and] at hW;have hdeps:∀ q ∈ ([(2,1),(3,2),(4,3),(6,5),(7,6)]:List (Nat × Nat)),q.1=5->d q.2=true:=by simp
            simp [fillFrom,Act.put];obtain ⟨HJ,HV,HP,HD⟩:=hd4 hJ hV hp hdeps;clear hdeps hJ hV hp hd hW;go_wp2
            first | refine ⟨_,rfl,?_⟩ | refine ⟨rfl,_,?_⟩ | skip
            exact HV.out.one (by decide) HD.out (by first | (intro _;rfl) | (intro e;cases e)) HP.out (HJ.out.here (by decide) rfl)
           ·rw [hal 5 (by decide) (by decide)] at hd;cases hd
          ·intro d y' X hV hd hW;obtain ⟨hp,hJ⟩ | ⟨hp,hal,hPo⟩:=hV.st
           ·obtain ⟨f10,ff,flt⟩:=HCe.out X hJ.st hJ.same;simp only [Waits,Region.binds,forall_const,Bool.false_eq_true,false_implies,and_true,true_and] at hW;have h5:d 5=true:=by simp only [hW]
            have hdeps:∀ q ∈ ([(2,1),(3,2),(4,3),(6,5),(7,6)]:List (Nat × Nat)),q.1=6->d q.2=true:=by simp [h5]
            have J5:=hJ.all 5 h5;simp only [GU,List.getElem?_cons_zero,List.getElem?_cons_succ] at J5;simp [fillFrom,Act.put];generalize hg5:y' 5=y5;rw [hg5] at J5;clear hg5;obtain rfl:=J5;obtain ⟨HJ,HV,HP,HD⟩:=hd4 hJ hV hp hdeps;clear hdeps hJ hV hp hd hW h5;have HCt:=hid (HVar.out X)
            go_wp2_with fail
            refine HCt.out.mono ?_
            rintro e w1 ⟨v1,rfl,kv,kb⟩;obtain ⟨KV,KB⟩:=hd2 kv kb;clear kv kb HCt;go_wp2
            first | exact ⟨_,rfl,HV.out.one (by decide) HD.out (by first | (intro _;rfl) | (intro e;cases e)) HP.out (HJ.out.step (by decide) KB.out KV.out)⟩ | exact HV.out.one (by decide) HD.out (by first | (intro _;rfl) | (intro e;cases e)) HP.out (HJ.out.step (by decide) KB.out KV.out)
           ·rw [hal 6 (by decide) (by decide)] at hd;cases hd
          ·intro d y' X hV hd hW;obtain ⟨hp,hJ⟩ | ⟨hp,hal,hPo⟩:=hV.st
           ·obtain ⟨f10,ff,flt⟩:=HCe.out X hJ.st hJ.same;simp only [Waits,Region.binds,forall_const,Bool.false_eq_true,false_implies,and_true,true_and] at hW;have h6:d 6=true:=by simp only [hW]
            have hdeps:∀ q ∈ ([(2,1),(3,2),(4,3),(6,5),(7,6)]:List (Nat × Nat)),q.1=7->d q.2=true:=by simp [h6]
            have J6:=hJ.all 6 h6;simp only [GU,List.getElem?_cons_zero,List.getElem?_cons_succ] at J6;simp [fillFrom,Act.put];generalize hg6:y' 6=y6;rw [hg6] at J6;clear hg6;have K6:=hid J6;clear J6;obtain ⟨HJ,HV,HP,HD⟩:=hd4 hJ hV hp hdeps;clear hdeps hJ hV hp hd hW h6;obtain ⟨xa,xn,xc,xb,xan,xnn,xcn,xad,xnd,xcd,rfl⟩:=K6.out.spell;obtain ⟨HRow,HBa⟩:=hd2 (One4.form K6.out.fp 53) ((Below.refl X.heap.size X).alloc (Nat.le_refl _) (.cells #[.slice xa xn xc,.bool xb,.slice xan xnn xcn,.slice xad xnd xcd] 53));have HFr:=hid (HJ.out.un.fresh HBa.out (Nat.le_refl _) (by simp));clear K6;go_wp2
            first | exact ⟨_,rfl,HV.out.one (by decide) HD.out (by first | (intro _;rfl) | (intro e;cases e)) HP.out (HJ.out.step (by decide) HBa.out ⟨HRow.out,fun b e=>by cases e;exact HFr.out⟩)⟩ | exact HV.out.one (by decide) HD.out (by first | (intro _;rfl) | (intro e;cases e)) HP.out (HJ.out.step (by decide) HBa.out ⟨HRow.out,fun b e=>by cases e;exact HFr.out⟩)
           ·rw [hal 7 (by decide) (by decide)] at hd;cases hd
          ·intro d y' X hV hd hW;obtain ⟨hp,hJ⟩ | ⟨hp,hal,hPo⟩:=hV.st
           ·obtain ⟨f10,ff,flt⟩:=HCe.out X hJ.st hJ.same;simp only [Waits,Region.binds,forall_const,Bool.false_eq_true,false_implies,and_true,true_and] at hW;have h4:d 4=true:=by simp only [hW]
            have h7:d 7=true:=by simp only [hW]
            have h6:d 6=true:=by simp only [hW]
            have J4:=hJ.all 4 h4;have J7:=hJ.all 7 h7;have J6:=hJ.all 6 h6;simp only [GU,List.getElem?_cons_zero,List.getElem?_cons_succ] at J4 J7 J6;simp [fillFrom,Act.put];generalize hg4:y' 4=y4;rw [hg4] at J4;generalize hg7:y' 7=y7;rw [hg7] at J7;generalize hg6:y' 6=y6;rw [hg6] at J6;clear hg4;obtain rfl:=J4;clear hg7;have K7:=hid J7;clear J7;clear hg6;have K6:=hid J6;clear J6;obtain ⟨HJ,HV,HP⟩:=hd3 hJ hV hp;have h5:=hV.cl (6,5) (by simp) h6;have h3:=hV.cl (4,3) (by simp) h4;have h2:=hV.cl (3,2) (by simp) h3;have h1:=hV.cl (2,1) (by simp) h2;have hall:∀ i,0 < i->i < 8->d i=true:=by
             intro i i1 i2;have hi:i=1 ∨ i=2 ∨ i=3 ∨ i=4 ∨ i=5 ∨ i=6 ∨ i=7:=by omega
             rcases hi with rfl | rfl | rfl | rfl | rfl | rfl | rfl <;> assumption
            have HAl:=hid hall;clear hall hJ hV hp hd hW h4 h7 h6 h5 h3 h2 h1;obtain ⟨HFX,HLX,HGe,HRow⟩:=hd4 (HFo.out.stp HLw.out.un HJ.out.st) (HLw.out.stp HJ.out.st HJ.out.same) (show gL+1<=X.heap.size from Nat.le_trans HgL.out HJ.out.st.size) K7.out.1;clear K7 f10 ff flt
            go_wp2_with (at_builtin;refine wpList_app4 (T:=53) formK (.slice none 0 0) (.bool false) (.slice none 0 0) (.slice none 0 0) 80 (by intro u hu;simp at hu;rcases hu with rfl | rfl | rfl | rfl <;> rfl) rfl (.tmp 72) (.tmp 75) 28 rfl (gL+1) Tryz.underlying28 (by kernel_rfl) (by omega) (.slice a k c) k (varsF k) HLk.out rfl HFX.out.own _ V HRow.out rfl (by omega) HGe.out ?_;intro b3 k3 w3 hown hk3 hg hbe hnx;have HF3:=hid (HFX.out.app HLX.out.un hown hg hnx);rw [<- HStep.out] at HF3;have HPost:Hid (VarP w2 gG gL nI k (S1.nums a k c) (.slice b3 (k+1) k3) w3):=⟨b3,k3,rfl,HF3.out,HLX.out.appX HFX.out hg (HF3.out.read (by simp [varsF];omega))⟩;clear hown hg hbe hnx)
            first | exact ⟨_,rfl,HV.out.app (by decide) HAl.out (by simp) HPost.out⟩ | exact HV.out.app (by decide) HAl.out (by simp) HPost.out
           ·rw [hp] at hd;cases hd
         ·intro ops d y' X hA hV;have hz0:=hV.z0 (hA 0 (by decide));obtain ⟨hp,_⟩ | ⟨_,_,hPo⟩:=hV.st
          ·rw [hA 8 (by decide)] at hp;cases hp
          have HPo:=hid hPo;clear hV hA hPo;simp only [List.take_succ_cons,List.take_zero,List.drop_succ_cons,List.drop_zero];simp [fillFrom,Act.put];generalize y' 0=y0 at hz0 ⊢;subst hz0;generalize y' 8=yp at HPo ⊢;obtain ⟨b3,k3,rfl,hF3,hL3⟩:=HPo.out;obtain ⟨HL4,HF4⟩:=hd2 (hL3.nums b3 (k+1) k3) (hF3.setZ (o:=10) (u:=.slice b3 (k+1) k3) hL3.ai hL3.fre.ne (Nat.lt_succ_self _));have y10:X.cell? ⟨gL,10,none⟩=some (.slice a k c):=hL3.box.c 10 (by omega);have yff:=hL3.box.free;have ylt:=hL3.box.lt;clear hF3 hL3 HPo;go_wp2;go_roundw
          case rel=>exact ⟨k+1,b3,k3,hlk,by go_num,HL4.out,HF4.out⟩
          case measure=>simp [intOf];omega
        ·have hkn:nI=k:=by omega
         subst hkn;have hnc:nI<=c:=by
          obtain ⟨a',c',e,hc⟩:=HFo.out.own.form;simp only [Value.slice.injEq] at e;obtain ⟨_,e2,e3⟩:=e;omega
         have b6:=blA wr (.cells #[.slice a nI c] 28);have hOne:=OwnFF.one (m:=nI) (c:=c) HLw.out.un HLw.out.cur (by simp [varsF]) hnc (show gL+1<=wr.heap.size from HLw.out.box.lt);have HL6:=hid ((HLw.out.below b6).own' hOne);have HL7:=hid (HL6.out.trc (some ⟨wr.heap.size,0,none⟩) 1 1);have x10:wr.cell? ⟨gL,10,none⟩=some (.slice a nI c):=HLw.out.box.c 10 (by omega);have y11:(wr.alloc (.cells #[.slice a nI c] 28)).cell? ⟨gL,11,none⟩=some (.slice none 0 0):=by
          have h:=HL6.out.box.c 11 (by omega);rw [h];show some (Value.slice S1.aT S1.nT S1.cT)=_
          rw [HS1.out.2.2.2.2.1,HS1.out.2.2.2.2.2.1,HS1.out.2.2.2.2.2.2]
         have yff:=HL6.out.box.free;have xlt:=HLw.out.box.lt;have ylt:=HL6.out.box.lt;have HBl:Hid (Below w2.heap.size w2 wr):=by have h:=HLw.out.bl;rw [HGg.out] at h;exact h
         have HgL:=hid HLw.out.box.lt;clear HLw HFo hOne b6
         go_upto_region 18 with fail
         obtain ⟨aT0,haT0⟩:∃ aT0:Option Addr,aT0=some ⟨wr.heap.size,0,none⟩:=⟨_,rfl⟩
         rw [World.setCell_alloc_past _ _ _ _ xlt] at HL7;rw [<- haT0] at HL7 ⊢;clear haT0 HL6 x10 y11 yff xlt ylt;generalize (wr.setCell ⟨gL,11,none⟩ (.slice aT0 1 1)).alloc (.cells #[.slice a nI c] 28)=W6 at *;have hbl6:Below w2.heap.size w2 W6:=by have h:=HL7.out.bl;rw [HGg.out] at h;exact h
         obtain ⟨x0,x1,xf,xlt⟩:=HX2.out.below hbl6;obtain ⟨S2,hS2⟩:∃ S2,S2=(S1.nums a nI c).trc aT0 1 1:=⟨_,rfl⟩
         rw [<- hS2] at HL7;have HK2:Hid (LwK w2 S2 m.input (varsF nI).length 0 gG):=by
          unfold Hid;rw [hS2];obtain ⟨_,r2,r3,r4,_⟩:=HS1.out;exact ⟨r4.symm,by show Ints w2 Any S1.aS m.input;rw [r3];exact HSi2.out,by simp [varsF];rfl,hnc,rfl,r2⟩
         have HT2:Hid (S2.aT=aT0/\S2.nT=1/\S2.cT=1/\S2.ax=a):=by rw [hS2];exact ⟨rfl,rfl,rfl,rfl⟩
         have HLst:Hid (LwB w2 gG gL nI W6 S2.fn [] (.slice S2.aT S2.nT S2.cT) (varsF nI::[]) S2.ax (currF (varsF nI) [])):=by
          obtain ⟨r1,r2,r3,r4⟩:=HT2.out;unfold Hid;rw [r1,r2,r3,r4];exact HL7.out
         have HQ0:Hid (LwQ nI m.input [] [] [] 1 1 1280):=LwQ.start HNin.out (by have:=HNI.out;omega);have HTot:Hid (((lowFrom nI m.input (varsF nI) [] [] [] m.layers).1.length:Int)<=1024):=by
          unfold Hid;rw [low_total HNin.out HCh.out, <- HNun.out];exact HUn1.out
         clear hS2 HL7 hbl6 HT2 hnc;go_wp2;clear x0 x1 xf xlt
         go_loopw [91] (fun i wr=>∃ (j:Nat) (U:List AffQ) (Y:List (List AffQ)) (D' B':Nat) (S:LowV),j<=m.layers.length/\i=.int .i64 (j:Int)/\Hid (LwB w2 gG gL nI wr S.fn U (.slice S.aT S.nT S.cT) (varsF nI::Y) S.ax (currF (varsF nI) Y))/\
          Hid (LwK w2 S (currL m.input (T.take j)) (currF (varsF nI) Y).length j gG)/\Hid (Y.length=j)/\Hid (LwQ nI m.input (T.take j) U Y D' B' 1280)/\Hid (RoomK (12 - j) D' B')/\
          Hid (lowFrom nI m.input (varsF nI) (T.take j) Y U (m.layers.drop j)=lowFrom nI m.input (varsF nI) [] [] [] m.layers)) (fun i _=>m.layers.length - (intOf i).toNat)
         case atStart=>exact ⟨0,[],[],1,1,S2,Nat.zero_le _,rfl,HLst.out,HK2.out,rfl,HQ0.out,room_low,rfl⟩
         case round=>
          obtain ⟨j,U,Y,D',B',S,hj,rfl,HLw,HStp,HYl,HQ,HRm,HTq⟩:=hrel;clear HLst HK2 HQ0;have HB:Hid (Below w2.heap.size w2 wr):=by have h:=HLw.out.bl;rw [HGg.out] at h;exact h
          by_cases hlt:j < m.layers.length
          ·have hbw:=HB2.out.trans (HB.out.mono HB2.out.size);obtain ⟨bl,ol,l,ha2,hbl,hl,b1,b2,d1,d2,⟨l0,l1,l2,l3,l4,l5,l6,l7,l8⟩,r1,r2⟩:=H2.out.pick hlt;have hmem:=List.mem_of_getElem? hl;have hTj:T[j]? =some (T[j]'(by rw [HTl.out];exact hlt)):=List.getElem?_eq_getElem _;have hout:=HCh.out.2 j _ l hTj hl;rw [List.nil_append] at hout;have hdrop:m.layers.drop j=l::m.layers.drop (j+1):=by
            rw [List.drop_eq_getElem_cons hlt]
            congr 1
            rw [List.getElem?_eq_getElem hlt] at hl;exact Option.some.inj hl
           have hq:=HTq.out;rw [hdrop] at hq;have hf0:(outSL m.input (T.take j) l).2=0:=by rw [hout]
           obtain ⟨hfit,hnum,h7⟩:=fit_of hf0;obtain ⟨hcx,hcB⟩:=HQ.out.curr;have hvc:validL (currL m.input (T.take j))=true:=by
            cases hv:validL (currL m.input (T.take j)) with
            | true=>rfl
            | false=>
             exfalso
             have hb:=(outSL_cases m.input (T.take j) l)
             unfold currL at hv
             rcases hb with ⟨k,_,_⟩ | ⟨k,_⟩
             ·omega
             ·simp only [Bool.and_eq_true] at k
              cases hg:(T.take j).getLast? with
              | none=>rw [hg] at hv;simp only [Option.getD_none] at hv;rw [k.1.1] at hv;cases hv
              | some z=>
               rw [hg] at hv;simp only [Option.getD_some] at hv;have:=List.all_eq_true.1 k.2 z (List.mem_of_getLast? hg);rw [this] at hv;cases hv
           obtain ⟨LY,hLY⟩:∃ LY,LY=lowLay nI U l (currL m.input (T.take j)) (currF (varsF nI) Y) (fromF (varsF nI) Y l.frm):=⟨_,rfl⟩
           have hq2:lowFrom nI m.input (varsF nI) (T.take (j+1)) (Y++[LY.2]) LY.1 (m.layers.drop (j+1))=lowFrom nI m.input (varsF nI) [] [] [] m.layers:=by
            rw [<- hq,hLY];show _=lowFrom nI m.input (varsF nI) (T.take j++[(outSL m.input (T.take j) l).1]) _ _ _
            rw [hout,List.take_add_one,hTj];rfl
           have hNb:nI+LY.1.length<=1280:=by
            obtain ⟨V,hV⟩:=lowFrom_units (nI:=nI) (input:=m.input) (x:=varsF nI) (L:=m.layers.drop (j+1)) (S:=T.take (j+1)) (Y:=Y++[LY.2]) (U:=LY.1);rw [hq2] at hV;have h1:=HTot.out;rw [hV,List.length_append] at h1;have h2:=HNI.out;omega
           obtain ⟨kk,k1,k2,k3⟩:=HQ.out.step hf0 (HSm.out l hmem) hvc (by rw [<- hLY];exact hNb);rw [hout, <- hLY,show T.take j++[T[j]'(by rw [HTl.out];exact hlt)]=T.take (j+1) by rw [List.take_add_one,hTj];rfl] at k3;have hsz2:=validL_size hvc;have hc9:=fun o=>hbw.cell (p:=⟨bl,o,none⟩) hbl
           have l0:=(hc9 _).trans l0;have l1:=(hc9 _).trans l1;have l2:=(hc9 _).trans l2;have l3:=(hc9 _).trans l3;have l4:=(hc9 _).trans l4;have l5:=(hc9 _).trans l5;have l6:=(hc9 _).trans l6;have l7:=(hc9 _).trans l7;have l8:=(hc9 _).trans l8;have hbl2:=Nat.lt_of_lt_of_le hbl hbw.size;obtain ⟨bT,oT,t,aT,ct,haT,tc0,hTi,htc,hIt,hbT,_⟩:=HI2.out.pickc (k:=j) (by rw [HTl.out];exact hlt);have E3:Hid (currL m.input (T.take (j+1))=t):=by
            unfold Hid currL;rw [List.getLast?_take,if_neg (by omega),show j+1 - 1=j by omega,hTi];rfl
           have hf7:l.kind=7->(fromF (varsF nI) Y l.frm).length=(currF (varsF nI) Y).length/\∃ fr1:Nat,l.frm+1=(fr1:Int)/\fr1 < Y.length+1/\(varsF nI::Y)[fr1]? =some (fromF (varsF nI) Y l.frm):=fun hk7=>by
            obtain ⟨g1,g2,g3⟩:=h7 hk7;exact HQ.out.flen g1 g2 g3
           have HOutp:Hid (∀ W',LwB w2 gG gL nI W' (S.lay l b1 d1 b2 d2).fn U (.slice S.aT S.nT S.cT) (varsF nI::Y) S.ax (currF (varsF nI) Y)->Calls Tryz.prog 35 #[.pointer (some ⟨gL,0,none⟩)] W' (RowX gG nI W' LY.1 LY.2)):=fun W' hts=>by
            have hb0:Below w2.heap.size w2 W':=by have h:=hts.bl;rw [HGg.out] at h;exact h
            have hb1:=HB2.out.trans (hb0.mono HB2.out.size);rw [hLY] at hNb ⊢
            refine lOutput (S:=S.lay l b1 d1 b2 d2) (LoBox.fn hts.box) HStp.out.fu hts.un hfit hnum hcx (by omega) (by omega) rfl rfl rfl rfl rfl rfl rfl rfl HStp.out.nS HStp.out.nx HStp.out.cx (r1.below hb1) (r2.below hb1) (HStp.out.sh.below hb0) hts.cur (fun hk7=>?_) (HSm.out l hmem) hcB (HQ.out.frm l.frm) HQ.out.hD HQ.out.hB HRm.out.now (by omega) hNb
            obtain ⟨e1,fr1,e2,e3,e4⟩:=hf7 hk7;obtain ⟨bt,af,cf,k1,k2,k3,k4⟩:=hts.own.at' e4;have hnx:=HStp.out.nx;have hnT:=HStp.out.nT;rw [e1,hnx] at k3
            refine ⟨bt,0,af,cf,fr1,e2,k1,?_,k2,k3,k4,e1.trans hnx,?_⟩
            ·show fr1 < S.nT
             rw [hnT, <- HYl.out];exact e3
            ·show S.nT<=1000000
             rw [hnT];omega
           obtain ⟨HQ2,K1,K2,K3,HIt⟩:=hd5 hq2 k1 k2 k3 hIt;have hal:=blA wr (layO l b1 d1 b2 d2 44);obtain ⟨HTj,HBx9⟩:=hd2 (HLw.out.below hal) (Box9.alloc wr (.int .i64 l.kind) (.int .i64 l.frm) (.int .i64 l.out) (.int .i64 l.kh) (.int .i64 l.kw) (.int .i64 l.stride) (.int .i64 l.pad) (.slice b1 l.weights.length d1) (.slice b2 l.bias.length d2) 44);subst ha2 haT;clear hq2 k1 k2 k3 hf7 h7 hfit hnum hcx hcB hvc hsz2 hf0 hdrop hq hTj hmem hout hIt hal hc9 hLY hNb r1 r2 HLw
           go_upto_region 21 with fail
           generalize wr.alloc (layO l b1 d1 b2 d2 44)=wj at *;clear l0 l1 l2 l3 l4 l5 l6 l7 l8;obtain ⟨l0,l1,l2,l3,l4,l5,l6,l7,l8,l9⟩:=HBx9.out;have HLy:=hid (HTj.out.lay l b1 d1 b2 d2);obtain ⟨f0,f1,f2,f3,f4,f5,f6,f7,f8,f9,f10,f11,f12,ff,flt⟩:=LoBox.fn HTj.out.box
           go_upto_region 22 with fail
           generalize ((((((((wj.setCell ⟨gL,0,none⟩ (.int .i64 l.kind)).setCell ⟨gL,1,none⟩ (.int .i64 l.frm)).setCell ⟨gL,2,none⟩ (.int .i64 l.out)).setCell ⟨gL,3,none⟩ (.int .i64 l.kh)).setCell ⟨gL,4,none⟩ (.int .i64 l.kw)).setCell ⟨gL,5,none⟩ (.int .i64 l.stride)).setCell ⟨gL,6,none⟩ (.int .i64 l.pad)).setCell ⟨gL,7,none⟩ (.slice b1 l.weights.length d1)).setCell ⟨gL,8,none⟩ (.slice b2 l.bias.length d2)=wk at *;have HKS:Hid (S.lay l b1 d1 b2 d2=S.lay l b1 d1 b2 d2):=rfl;obtain ⟨S3,hS3⟩:∃ S3,S3=S.lay l b1 d1 b2 d2:=⟨_,rfl⟩
           have HS3:Hid (S3.aT=S.aT/\S3.nT=S.nT/\S3.cT=S.cT/\S3.fu=S.fu):=by rw [hS3];exact ⟨rfl,rfl,rfl,rfl⟩
           have HC:=hid (HOutp.out wk HLy.out);rw [<- hS3] at HLy;clear HOutp HTj hS3 f0 f1 f2 f3 f4 f5 f6 f7 f8 f9 f10 f11 f12 ff flt l0 l1 l2 l3 l4 l5 l6 l7 l8 l9 HKS
           go_wp2_with fail
           refine HC.out.mono ?_
           rintro e w3 ⟨aR,cR,rfl,hcR,hR,hlR,hsR⟩;obtain ⟨LU,LX⟩:=LY;simp only at hcR hR hlR K3 HQ2 ⊢;obtain ⟨nR,hnR⟩:∃ nR,nR=LX.length:=⟨_,rfl⟩
           rw [<- hnR] at hcR ⊢;obtain ⟨HNR,HT3⟩:=hd2 hnR.symm ((HLy.out.stp hsR hlR).cur' hR);have HT4:=hid ((HT3.out.nums aR nR cR).shap aT t.length ct);have y9:=(LoBox.fn HT3.out.box).f9;have y10:=(LoBox.fn HT3.out.box).f10;have yff:=HT3.out.box.free;have ylt:=HT3.out.box.lt;have HB3:Hid (Below w2.heap.size w2 w3):=by have h:=HT3.out.bl;rw [HGg.out] at h;exact h
           have tc0:=(HB3.out.cell (p:=⟨bT,oT+j,none⟩) hbT).trans tc0;have hbT2:=Nat.lt_of_lt_of_le hbT HB3.out.size;have HcR:=hid hcR;have hne1:bT ≠ gL:=by have h1:=HGg.out;have h2:=HlG.out;omega
           have hne2:gL ≠ bT:=fun e=>hne1 e.symm
           have hjT:j < T.length:=by rw [HTl.out];exact hlt
           clear hR hlR hsR hnR HC HLy hcR
           go_upto_region 24 with fail
           generalize (w3.setCell ⟨gL,10,none⟩ (.slice aR nR cR)).setCell ⟨gL,9,none⟩ (.slice aT t.length ct)=w4 at *;clear y9 y10 yff ylt tc0 HT3 hne1 hne2 hjT;obtain ⟨S4,hS4⟩:∃ S4,S4=(S3.nums aR nR cR).shap aT t.length ct:=⟨_,rfl⟩
           have HS4:Hid (S4.aT=S.aT/\S4.nT=j+1/\S4.cT=S.cT/\S4.ax=aR/\S4.nx=nR/\S4.cx=cR/\S4.aS=aT/\S4.nS=t.length/\S4.fu=unitV gG):=by
            obtain ⟨e1,e2,e3,e4⟩:=HS3.out;rw [hS4];exact ⟨e1,e2.trans HStp.out.nT,e3,rfl,rfl,rfl,rfl,rfl,e4.trans HStp.out.fu⟩
           rw [<- hS4] at HT4;have HT5:Hid (LwB w2 gG gL nI w4 S4.fn LU (.slice S.aT (j+1) S.cT) (varsF nI::Y) aR LX):=by
            have h:=HT4.out;rw [HStp.out.nT] at h;exact h
           have hLr:=HT5.out.un;obtain ⟨aTr,haTr⟩:∃ aTr,aTr=S.aT:=⟨_,rfl⟩
           obtain ⟨cTr,hcTr⟩:∃ cTr,cTr=S.cT:=⟨_,rfl⟩
           rw [<- haTr, <- hcTr] at HT5 HS4;have HCe:Hid (∀ X,Stp gG w4 X->LSt X gG nI LU->X.cell? ⟨gL,10,none⟩=some (.slice aR nR cR)/\X.cell? ⟨gL,11,none⟩=some (.slice aTr (j+1) cTr)/\(∀ i,X.frozen? ⟨gL,i,none⟩=false)/\gL < X.heap.size):=fun X hs hl=>by
            have h:=LoBox.fn (HT5.out.stp hs hl).box;obtain ⟨e1,e2,e3,e4,e5,e6,_⟩:=HS4.out;have h10:=h.f10;have h11:=h.f11;rw [e4,e5,e6] at h10;rw [e1,e2,e3] at h11;exact ⟨h10,h11,h.free,h.lt⟩
           have HgL2:=hid HT5.out.box.lt;have HYm:Hid ((varsF nI::Y).length=j+1):=by unfold Hid;rw [List.length_cons,HYl.out]
           have HSI:Hid (∀ b c,LwK w2 (S4.trc b (j+2) c) (currL m.input (T.take (j+1))) (currF (varsF nI) (Y++[LX])).length (j+1) gG):=fun b c=>by
            obtain ⟨_,_,_,_,e5,e6,e7,e8,e9⟩:=HS4.out;rw [E3.out]
            refine ⟨e8.symm,?_,?_,?_,rfl,e9⟩
            ·show Ints w2 Any S4.aS t
             rw [e7];exact HIt.out.mono (fun _ _ _=>trivial)
            ·show (currF (varsF nI) (Y++[LX])).length=S4.nx
             rw [e5, <- HNR.out];simp [currF]
            ·show S4.nx<=S4.cx
             rw [e5,e6];exact HcR.out
           have HCu:Hid (currF (varsF nI) (Y++[LX])=LX):=by unfold Hid;simp [currF]
           clear hS4 HT4 haTr hcTr HStp HS3 HIt
           refine wp_region_slots_gen 11 (by kernel_rfl) (by kernel_rfl) (by kernel_rfl) (by kernel_rfl) (by decide) (AllV gG nI w4 LU [.val (.pointer (some ⟨gL,0,none⟩)),.val (.pointer (some ⟨gL,0,none⟩)),.val (.pointer (some ⟨gL,0,none⟩)),.val (.pointer (some ⟨gL,11,none⟩)),.val (.slice aTr (j+1) cTr),.val (.pointer (some ⟨gL,0,none⟩)),.val (.pointer (some ⟨gL,0,none⟩)),.val (.pointer (some ⟨gL,10,none⟩)),.val (.slice aR nR cR),.sl1 (.slice aR nR cR)] 10 [(2,1),(3,2),(4,3),(6,5),(7,6),(8,7),(9,8)] (.pointer (some ⟨gL,0,none⟩)) (TrcP w2 gG gL nI j S4 LU (varsF nI::Y) aR LX)) (fun g=>AllV.start (by assumption) g) ?_ ?_
           ·intro ops;simp only [List.take_succ_cons,List.take_zero,ShowsJ]
            refine ⟨?_,?_,?_,?_,?_,?_,?_,?_,?_,?_,?_,trivial⟩
            ·intro d y' X hV hd hW;obtain ⟨hp,hJ⟩ | ⟨hp,hal,hPo⟩:=hV.st
             ·obtain ⟨f10,f11,ff,flt⟩:=HCe.out X hJ.st hJ.same;simp only [Waits,Region.binds,forall_const,Bool.false_eq_true,false_implies,and_true,true_and] at hW;have hdeps:∀ q ∈ ([(2,1),(3,2),(4,3),(6,5),(7,6),(8,7),(9,8)]:List (Nat × Nat)),q.1=0->d q.2=true:=by simp
              simp [fillFrom,Act.put];obtain ⟨HJ,HV,HP,HD⟩:=hd4 hJ hV hp hdeps;clear hdeps hJ hV hp hd hW;go_wp2
              first | refine ⟨_,rfl,?_⟩ | refine ⟨rfl,_,?_⟩ | skip
              exact HV.out.one (by decide) HD.out (by first | (intro _;rfl) | (intro e;cases e)) HP.out (HJ.out.here (by decide) rfl)
             ·simp [fillFrom,Act.put];obtain ⟨HV,HP,HAl,HPo⟩:=hd4 hV hp hal hPo;clear hV hp hal hPo hd hW;go_wp2
              first | exact ⟨_,rfl,HV.out.late (by decide) (by simp) HP.out HAl.out HPo.out⟩ | exact HV.out.late (by decide) (by simp) HP.out HAl.out HPo.out
            ·intro d y' X hV hd hW;obtain ⟨hp,hJ⟩ | ⟨hp,hal,hPo⟩:=hV.st
             ·obtain ⟨f10,f11,ff,flt⟩:=HCe.out X hJ.st hJ.same;simp only [Waits,Region.binds,forall_const,Bool.false_eq_true,false_implies,and_true,true_and] at hW;have hdeps:∀ q ∈ ([(2,1),(3,2),(4,3),(6,5),(7,6),(8,7),(9,8)]:List (Nat × Nat)),q.1=1->d q.2=true:=by simp
              simp [fillFrom,Act.put];obtain ⟨HJ,HV,HP,HD⟩:=hd4 hJ hV hp hdeps;clear hdeps hJ hV hp hd hW;go_wp2
              first | refine ⟨_,rfl,?_⟩ | refine ⟨rfl,_,?_⟩ | skip
              exact HV.out.one (by decide) HD.out (by first | (intro _;rfl) | (intro e;cases e)) HP.out (HJ.out.here (by decide) rfl)
             ·rw [hal 1 (by decide) (by decide)] at hd;cases hd
            ·intro d y' X hV hd hW;obtain ⟨hp,hJ⟩ | ⟨hp,hal,hPo⟩:=hV.st
             ·obtain ⟨f10,f11,ff,flt⟩:=HCe.out X hJ.st hJ.same;simp only [Waits,Region.binds,forall_const,Bool.false_eq_true,false_implies,and_true,true_and] at hW;have h1:d 1=true:=by simp only [hW]
              have hdeps:∀ q ∈ ([(2,1),(3,2),(4,3),(6,5),(7,6),(8,7),(9,8)]:List (Nat × Nat)),q.1=2->d q.2=true:=by simp [h1]
              have J1:=hJ.all 1 h1;simp only [GU,List.getElem?_cons_zero,List.getElem?_cons_succ] at J1;simp [fillFrom,Act.put];generalize hg1:y' 1=y1;rw [hg1] at J1;clear hg1;obtain rfl:=J1;obtain ⟨HJ,HV,HP,HD⟩:=hd4 hJ hV hp hdeps;clear hdeps hJ hV hp hd hW h1;go_wp2
              first | refine ⟨_,rfl,?_⟩ | refine ⟨rfl,_,?_⟩ | skip
              exact HV.out.one (by decide) HD.out (by first | (intro _;rfl) | (intro e;cases e)) HP.out (HJ.out.here (by decide) rfl)
             ·rw [hal 2 (by decide) (by decide)] at hd;cases hd
            ·intro d y' X hV hd hW;obtain ⟨hp,hJ⟩ | ⟨hp,hal,hPo⟩:=hV.st
             ·obtain ⟨f10,f11,ff,flt⟩:=HCe.out X hJ.st hJ.same;simp only [Waits,Region.binds,forall_const,Bool.false_eq_true,false_implies,and_true,true_and] at hW;have h2:d 2=true:=by simp only [hW]
              have hdeps:∀ q ∈ ([(2,1),(3,2),(4,3),(6,5),(7,6),(8,7),(9,8)]:List (Nat × Nat)),q.1=3->d q.2=true:=by simp [h2]
              have J2:=hJ.all 2 h2;simp only [GU,List.getElem?_cons_zero,List.getElem?_cons_succ] at J2;simp [fillFrom,Act.put];generalize hg2:y' 2=y2;rw [hg2] at J2;clear hg2;obtain rfl:=J2;obtain ⟨HJ,HV,HP,HD⟩:=hd4 hJ hV hp hdeps;clear hdeps hJ hV hp hd hW h2;go_wp2
              first | refine ⟨_,rfl,?_⟩ | refine ⟨rfl,_,?_⟩ | skip
              exact HV.out.one (by decide) HD.out (by first | (intro _;rfl) | (intro e;cases e)) HP.out (HJ.out.here (by decide) rfl)
             ·rw [hal 3 (by decide) (by decide)] at hd;cases hd
            ·intro d y' X hV hd hW;obtain ⟨hp,hJ⟩ | ⟨hp,hal,hPo⟩:=hV.st
             ·obtain ⟨f10,f11,ff,flt⟩:=HCe.out X hJ.st hJ.same;simp only [Waits,Region.binds,forall_const,Bool.false_eq_true,false_implies,and_true,true_and] at hW;have h3:d 3=true:=by simp only [hW]
              have hdeps:∀ q ∈ ([(2,1),(3,2),(4,3),(6,5),(7,6),(8,7),(9,8)]:List (Nat × Nat)),q.1=4->d q.2=true:=by simp [h3]
              have J3:=hJ.all 3 h3;simp only [GU,List.getElem?_cons_zero,List.getElem?_cons_succ] at J3;simp [fillFrom,Act.put];generalize hg3:y' 3=y3;rw [hg3] at J3;clear hg3;obtain rfl:=J3;obtain ⟨HJ,HV,HP,HD⟩:=hd4 hJ hV hp hdeps;clear hdeps hJ hV hp hd hW h3;go_wp2
              first | refine ⟨_,rfl,?_⟩ | refine ⟨rfl,_,?_⟩ | skip
              exact HV.out.one (by decide) HD.out (by first | (intro _;rfl) | (intro e;cases e)) HP.out (HJ.out.here (by decide) rfl)
             ·rw [hal 4 (by decide) (by decide)] at hd;cases hd
            ·intro d y' X hV hd hW;obtain ⟨hp,hJ⟩ | ⟨hp,hal,hPo⟩:=hV.st
             ·obtain ⟨f10,f11,ff,flt⟩:=HCe.out X hJ.st hJ.same;simp only [Waits,Region.binds,forall_const,Bool.false_eq_true,false_implies,and_true,true_and] at hW;have hdeps:∀ q ∈ ([(2,1),(3,2),(4,3),(6,5),(7,6),(8,7),(9,8)]:List (Nat × Nat)),q.1=5->d q.2=true:=by simp
              simp [fillFrom,Act.put];obtain ⟨HJ,HV,HP,HD⟩:=hd4 hJ hV hp hdeps;clear hdeps hJ hV hp hd hW;go_wp2
              first | refine ⟨_,rfl,?_⟩ | refine ⟨rfl,_,?_⟩ | skip
              exact HV.out.one (by decide) HD.out (by first | (intro _;rfl) | (intro e;cases e)) HP.out (HJ.out.here (by decide) rfl)
             ·rw [hal 5 (by decide) (by decide)] at hd;cases hd
            ·intro d y' X hV hd hW;obtain ⟨hp,hJ⟩ | ⟨hp,hal,hPo⟩:=hV.st
             ·obtain ⟨f10,f11,ff,flt⟩:=HCe.out X hJ.st hJ.same;simp only [Waits,Region.binds,forall_const,Bool.false_eq_true,false_implies,and_true,true_and] at hW;have h5:d 5=true:=by simp only [hW]
              have hdeps:∀ q ∈ ([(2,1),(3,2),(4,3),(6,5),(7,6),(8,7),(9,8)]:List (Nat × Nat)),q.1=6->d q.2=true:=by simp [h5]
              have J5:=hJ.all 5 h5;simp only [GU,List.getElem?_cons_zero,List.getElem?_cons_succ] at J5;simp [fillFrom,Act.put];generalize hg5:y' 5=y5;rw [hg5] at J5;clear hg5;obtain rfl:=J5;obtain ⟨HJ,HV,HP,HD⟩:=hd4 hJ hV hp hdeps;clear hdeps hJ hV hp hd hW h5;go_wp2
              first | refine ⟨_,rfl,?_⟩ | refine ⟨rfl,_,?_⟩ | skip
              exact HV.out.one (by decide) HD.out (by first | (intro _;rfl) | (intro e;cases e)) HP.out (HJ.out.here (by decide) rfl)
             ·rw [hal 6 (by decide) (by decide)] at hd;cases hd
            ·intro d y' X hV hd hW;obtain ⟨hp,hJ⟩ | ⟨hp,hal,hPo⟩:=hV.st
             ·obtain ⟨f10,f11,ff,flt⟩:=HCe.out X hJ.st hJ.same;simp only [Waits,Region.binds,forall_const,Bool.false_eq_true,false_implies,and_true,true_and] at hW;have h6:d 6=true:=by simp only [hW]
              have hdeps:∀ q ∈ ([(2,1),(3,2),(4,3),(6,5),(7,6),(8,7),(9,8)]:List (Nat × Nat)),q.1=7->d q.2=true:=by simp [h6]
              have J6:=hJ.all 6 h6;simp only [GU,List.getElem?_cons_zero,List.getElem?_cons_succ] at J6;simp [fillFrom,Act.put];generalize hg6:y' 6=y6;rw [hg6] at J6;clear hg6;obtain rfl:=J6;obtain ⟨HJ,HV,HP,HD⟩:=hd4 hJ hV hp hdeps;clear hdeps hJ hV hp hd hW h6;go_wp2
              first | refine ⟨_,rfl,?_⟩ | refine ⟨rfl,_,?_⟩ | skip
              exact HV.out.one (by decide) HD.out (by first | (intro _;rfl) | (intro e;cases e)) HP.out (HJ.out.here (by decide) rfl)
             ·rw [hal 7 (by decide) (by decide)] at hd;cases hd
            ·intro d y' X hV hd hW;obtain ⟨hp,hJ⟩ | ⟨hp,hal,hPo⟩:=hV.st
             ·obtain ⟨f10,f11,ff,flt⟩:=HCe.out X hJ.st hJ.same;simp only [Waits,Region.binds,forall_const,Bool.false_eq_true,false_implies,and_true,true_and] at hW;have h7:d 7=true:=by simp only [hW]
              have hdeps:∀ q ∈ ([(2,1),(3,2),(4,3),(6,5),(7,6),(8,7),(9,8)]:List (Nat × Nat)),q.1=8->d q.2=true:=by simp [h7]
              have J7:=hJ.all 7 h7;simp only [GU,List.getElem?_cons_zero,List.getElem?_cons_succ] at J7;simp [fillFrom,Act.put];generalize hg7:y' 7=y7;rw [hg7] at J7;clear hg7;obtain rfl:=J7;obtain ⟨HJ,HV,HP,HD⟩:=hd4 hJ hV hp hdeps;clear hdeps hJ hV hp hd hW h7;go_wp2
              first | refine ⟨_,rfl,?_⟩ | refine ⟨rfl,_,?_⟩ | skip
              exact HV.out.one (by decide) HD.out (by first | (intro _;rfl) | (intro e;cases e)) HP.out (HJ.out.here (by decide) rfl)
             ·rw [hal 8 (by decide) (by decide)] at hd;cases hd
            ·intro d y' X hV hd hW;obtain ⟨hp,hJ⟩ | ⟨hp,hal,hPo⟩:=hV.st
             ·obtain ⟨f10,f11,ff,flt⟩:=HCe.out X hJ.st hJ.same;simp only [Waits,Region.binds,forall_const,Bool.false_eq_true,false_implies,and_true,true_and] at hW;have h8:d 8=true:=by simp only [hW]
              have hdeps:∀ q ∈ ([(2,1),(3,2),(4,3),(6,5),(7,6),(8,7),(9,8)]:List (Nat × Nat)),q.1=9->d q.2=true:=by simp [h8]
              have J8:=hJ.all 8 h8;simp only [GU,List.getElem?_cons_zero,List.getElem?_cons_succ] at J8;simp [fillFrom,Act.put];generalize hg8:y' 8=y8;rw [hg8] at J8;clear hg8;obtain rfl:=J8;obtain ⟨HJ,HV,HP,HD⟩:=hd4 hJ hV hp hdeps;clear hdeps hJ hV hp hd hW h8;have HBa:=hid ((Below.refl X.heap.size X).alloc (Nat.le_refl _) (.cells #[.slice aR nR cR] 28));have HFr:=hid (HJ.out.un.fresh HBa.out (Nat.le_refl _) (by simp));have HCl:Hid ((X.alloc (.cells #[.slice aR nR cR] 28)).cell? ⟨X.heap.size,0,none⟩=some (.slice aR nR cR)):=by unfold Hid;rw [World.cell?_alloc_at _ _ _ _ rfl];rfl
              go_wp2
              first | exact ⟨_,rfl,HV.out.one (by decide) HD.out (by first | (intro _;rfl) | (intro e;cases e)) HP.out (HJ.out.step (by decide) HBa.out ⟨_,rfl,HFr.out,HCl.out⟩)⟩ | exact HV.out.one (by decide) HD.out (by first | (intro _;rfl) | (intro e;cases e)) HP.out (HJ.out.step (by decide) HBa.out ⟨_,rfl,HFr.out,HCl.out⟩)
             ·rw [hal 9 (by decide) (by decide)] at hd;cases hd
            ·intro d y' X hV hd hW;obtain ⟨hp,hJ⟩ | ⟨hp,hal,hPo⟩:=hV.st
             ·obtain ⟨f10,f11,ff,flt⟩:=HCe.out X hJ.st hJ.same;simp only [Waits,Region.binds,forall_const,Bool.false_eq_true,false_implies,and_true,true_and] at hW;have h4:d 4=true:=by simp only [hW]
              have h9:d 9=true:=by simp only [hW]
              have J4:=hJ.all 4 h4;have J9:=hJ.all 9 h9;simp only [GU,List.getElem?_cons_zero,List.getElem?_cons_succ] at J4 J9;simp [fillFrom,Act.put];generalize hg4:y' 4=y4;rw [hg4] at J4;generalize hg9:y' 9=y9;rw [hg9] at J9;clear hg4;obtain rfl:=J4;clear hg9;have K9:=hid J9;clear J9;obtain ⟨HJ,HV,HP⟩:=hd3 hJ hV hp;have h8:=hV.cl (9,8) (by simp) h9;have h7:=hV.cl (8,7) (by simp) h8;have h6:=hV.cl (7,6) (by simp) h7;have h5:=hV.cl (6,5) (by simp) h6;have h3:=hV.cl (4,3) (by simp) h4;have h2:=hV.cl (3,2) (by simp) h3;have h1:=hV.cl (2,1) (by simp) h2;have hall:∀ i,0 < i->i < 10->d i=true:=by
               intro i i1 i2;have hi:i=1 ∨ i=2 ∨ i=3 ∨ i=4 ∨ i=5 ∨ i=6 ∨ i=7 ∨ i=8 ∨ i=9:=by omega
               rcases hi with rfl | rfl | rfl | rfl | rfl | rfl | rfl | rfl | rfl <;> assumption
              have HAl:=hid hall;clear hall hJ hV hp hd hW h4 h9 h8 h7 h6 h5 h3 h2 h1;obtain ⟨HLX,HGe⟩:=hd2 (HT5.out.stp HJ.out.st HJ.out.same) (show gL+1<=X.heap.size from Nat.le_trans HgL2.out HJ.out.st.size);obtain ⟨gs,rfl,hgf,hgc⟩:=K9.out;have HGc:=hid hgc;clear K9 hgf hgc f10 f11 ff flt
              go_wp2_with (at_builtin;refine wpList_appFF rfl (.tmp 116) (.tmp 121) 70 rfl gG nI (gL+1) Tryz.underlying70 (by kernel_rfl) (.slice aTr (j+1) cTr) (j+1) (varsF nI::Y) LU HYm.out rfl HLX.out.own HLX.out.un LX nR HNR.out aR cR HcR.out HLX.out.cur gs HGc.out rfl (by omega) HGe.out ?_;intro b3 k3 w5 hown hk3 hg;have HPost:Hid (TrcP w2 gG gL nI j S4 LU (varsF nI::Y) aR LX (.slice b3 (j+2) k3) w5):=⟨b3,k3,rfl,HLX.out.app hown hg⟩;clear hown hg)
              first | exact ⟨_,rfl,HV.out.app (by decide) HAl.out (by simp) HPost.out⟩ | exact HV.out.app (by decide) HAl.out (by simp) HPost.out
             ·rw [hp] at hd;cases hd
           ·intro ops d y' X hA hV;have hz0:=hV.z0 (hA 0 (by decide));obtain ⟨hp,_⟩ | ⟨_,_,hPo⟩:=hV.st
            ·rw [hA 10 (by decide)] at hp;cases hp
            have HPo:=hid hPo;clear hV hA hPo;simp only [List.take_succ_cons,List.take_zero,List.drop_succ_cons,List.drop_zero];simp [fillFrom,Act.put];generalize y' 0=y0 at hz0 ⊢;subst hz0;generalize y' 10=yp at HPo ⊢;obtain ⟨b3,k3,rfl,hL3⟩:=HPo.out;have HL4:=hid (hL3.trc b3 (j+2) k3);have y11:=(LoBox.fn hL3.box).f11;have yff:=hL3.box.free;have ylt:=hL3.box.lt;clear hL3 HPo;go_wp2;go_roundw
            case rel=>
             refine ⟨j+1,LU,Y++[LX],D' * kk,9671406556917033397649408 * B',S4.trc b3 (j+2) k3,hlt,by go_num,?_,HSI.out b3 k3,?_,K3.out,?_,HQ2.out⟩
             ·rw [HCu.out,show (S4.trc b3 (j+2) k3).ax=aR from HS4.out.2.2.2.1];exact HL4.out
             ·unfold Hid;rw [List.length_append,HYl.out];rfl
             ·have h:=HRm.out;rw [show 12 - j=(12 - (j+1))+1 by omega] at h;exact h.next K2.out
            case measure=>simp [intOf];omega
          ·obtain rfl:j=m.layers.length:=by omega
           have hq:=HTq.out;rw [List.drop_length] at hq;have hq':(U,Y)=lowFrom nI m.input (varsF nI) [] [] [] m.layers:=hq;have HF:Hid (RR=(⟨nI,U,currF (varsF nI) Y⟩,0)):=by
            have h:=HRd5.out;rw [Int.toNat_natCast, <- hq'] at h;exact h.symm
           obtain ⟨OX,hOX⟩:∃ OX,OX=currF (varsF nI) Y:=⟨_,rfl⟩
           rw [<- hOX] at HF HLw HStp;have hnx:OX.length=S.nx:=HStp.out.nx;have HNx:=hid hnx;have hOl:OX.length<=16384:=by
            have h:=HQ.out.curr.1;rw [<- hOX] at h;have hv:validL (currL m.input (T.take m.layers.length))=true:=by
             have ht:T.take m.layers.length=T:=List.take_of_length_le (by rw [HTl.out];exact Nat.le_refl _);rw [ht];have hva:=HCh.out.valid;unfold currL
             cases hg:T.getLast? with
             | none=>exact HVi.out
             | some z=>exact List.all_eq_true.1 hva z (List.mem_of_getLast? hg)
            have:=(validL_size hv).2;omega
           have hUl:U.length<=1024:=by
            have h:=HTot.out;rw [<- hq'] at h;have h2:(U.length:Int)<=1024:=h;omega
           have hcx:S.nx<=S.cx:=HStp.out.cx;have hLr:=HLw.out.un;have HCe:Hid (∀ X,Stp gG wr X->LSt X gG nI U->X.cell? ⟨gL,10,none⟩=some (.slice S.ax S.nx S.cx)/\gL < X.heap.size/\X.cell? ⟨gG,2,none⟩=some (.slice none 0 0)/\gG < X.heap.size):=fun X hs hl=>
            ⟨(LoBox.fn (HLw.out.stp hs hl).box).f10,(HLw.out.stp hs hl).box.lt,hl.g2,hl.lt⟩
           obtain ⟨HOl,HUl,Hcx⟩:=hd3 hOl hUl hcx;clear hq hq' hOX hnx hOl hUl hcx HTq HRm HQ HStp HSi2 HTot
           go_upto_region 26 with fail
           refine wp_region_slots_gen 6 (by kernel_rfl) (by kernel_rfl) (by kernel_rfl) (by kernel_rfl) (by decide) (AllU gG nI wr U U 99 [.val (.pointer (some ⟨gG,2,none⟩)),.val (.slice none 0 0),.val (.pointer (some ⟨gL,0,none⟩)),.val (.pointer (some ⟨gL,0,none⟩)),.val (.pointer (some ⟨gL,10,none⟩)),.val (.slice S.ax S.nx S.cx)]) (fun g=>AllU.start (by assumption) g) ?_ ?_
           ·intro ops;simp only [List.take_succ_cons,List.take_zero,ShowsJ]
            refine ⟨?v0,?_,?v2,?_,?_,?_,trivial⟩
            all_goals (intro d y' X hJ hd hW;obtain ⟨f10,flt,f2,fgl⟩:=HCe.out X hJ.st hJ.same;simp only [Waits,Region.binds,forall_const,Bool.false_eq_true,false_implies,and_true,true_and] at hW)
            case v0|v2=>
             simp [fillFrom,Act.put];have HJ:=hid hJ;clear hJ hd hW;go_wp2
             first | refine ⟨_,rfl,?_⟩ | refine ⟨rfl,_,?_⟩ | skip
             exact HJ.out.here (by decide) rfl
            ·have h0:d 0=true:=by simp only [hW]
             have J0:=hJ.all 0 h0;simp only [GU,List.getElem?_cons_zero,List.getElem?_cons_succ] at J0;simp [fillFrom,Act.put];generalize hg0:y' 0=y0;rw [hg0] at J0;clear hg0;obtain rfl:=J0;have HJ:=hid hJ;clear hJ hd hW h0;go_wp2
             first | refine ⟨_,rfl,?_⟩ | refine ⟨rfl,_,?_⟩ | skip
             exact HJ.out.here (by decide) rfl
            ·have h2:d 2=true:=by simp only [hW]
             have J2:=hJ.all 2 h2;simp only [GU,List.getElem?_cons_zero,List.getElem?_cons_succ] at J2;simp [fillFrom,Act.put];generalize hg2:y' 2=y2;rw [hg2] at J2;clear hg2;obtain rfl:=J2;have HJ:=hid hJ;clear hJ hd hW h2;go_wp2
             first | refine ⟨_,rfl,?_⟩ | refine ⟨rfl,_,?_⟩ | skip
             exact HJ.out.here (by decide) rfl
            ·have h3:d 3=true:=by simp only [hW]
             have J3:=hJ.all 3 h3;simp only [GU,List.getElem?_cons_zero,List.getElem?_cons_succ] at J3;simp [fillFrom,Act.put];generalize hg3:y' 3=y3;rw [hg3] at J3;clear hg3;obtain rfl:=J3;have HJ:=hid hJ;clear hJ hd hW h3;go_wp2
             first | refine ⟨_,rfl,?_⟩ | refine ⟨rfl,_,?_⟩ | skip
             exact HJ.out.here (by decide) rfl
            ·have h4:d 4=true:=by simp only [hW]
             have J4:=hJ.all 4 h4;simp only [GU,List.getElem?_cons_zero,List.getElem?_cons_succ] at J4;simp [fillFrom,Act.put];generalize hg4:y' 4=y4;rw [hg4] at J4;clear hg4;obtain rfl:=J4;have HJ:=hid hJ;clear hJ hd hW h4;go_wp2
             first | refine ⟨_,rfl,?_⟩ | refine ⟨rfl,_,?_⟩ | skip
             exact HJ.out.here (by decide) rfl
           ·intro ops d y' X hA hJ;have J0:=hJ.all 0 (hA 0 (by decide));have J1:=hJ.all 1 (hA 1 (by decide));have J2:=hJ.all 2 (hA 2 (by decide));have J5:=hJ.all 5 (hA 5 (by decide));simp only [GU,List.getElem?_cons_zero,List.getElem?_cons_succ] at J0 J1 J2 J5;obtain ⟨f10,flt,f2,fgl⟩:=HCe.out X hJ.st hJ.same;obtain ⟨HLn,HSn⟩:=hd2 hJ.same hJ.st;clear hJ hA;simp only [List.take_succ_cons,List.take_zero,List.drop_succ_cons,List.drop_zero];simp [fillFrom,Act.put];generalize y' 0=y0 at J0 ⊢;obtain rfl:=J0;generalize y' 1=y1 at J1 ⊢;obtain rfl:=J1;generalize y' 2=y2 at J2 ⊢;obtain rfl:=J2;generalize y' 5=y5 at J5 ⊢;obtain rfl:=J5;have HLX:=hid (HLw.out.stp HSn.out HLn.out);obtain ⟨news,hsrc,_,hel⟩:=Row4.src formK HLX.out.cur.at';rw [HNx.out] at hsrc;obtain ⟨HSrc,HEl⟩:=hd2 hsrc hel;have hnx1:S.nx<=16384:=by rw [<- HNx.out];exact HOl.out
            clear hsrc hel f10 flt f2 fgl
            go_upto_region 27 with (at_builtin;(refine wpList_append_src rfl (.tmp 127) (.tmp 131) 28 28 rfl X.heap.size 53 (.agg #[.slice none 0 0,.bool false,.slice none 0 0,.slice none 0 0]) 4 80 Tryz.underlying28 Tryz.underlying28 (by kernel_rfl) rfl (by omega) (.slice none 0 0) 0 [] rfl (World.ownsRow_nil _ _ _ _) S.ax S.nx S.cx news rfl HSrc.out (by omega) (by unfold maxLen;omega) (Nat.le_refl _) ?_;intro v' w5 hown hg hnx;obtain ⟨b5,c5,rfl,hc5⟩:=own_form4 hown;have hb5:Below X.heap.size X w5:=⟨hg.os,hg.tape,hg.output,hg.size,fun k hk=>hg.block k hk (by simp [Value.ownBlock])⟩;rw [Nat.zero_add] at hown hc5 ⊢;rw [List.nil_append] at hown;have hO:=own_forms hown HNx.out (fun q x hx=>by obtain ⟨p0,p1,p2,p3,e0,e1,e2,e3,e4⟩:=HEl.out q x hx;exact ⟨p0,p1,p2,p3,e0,e1,e2,e3,formK.below e4 hb5⟩) (by have:=HOl.out;omega);have HB5:=hid hb5;have hbw:Below gG w2 w5:=HLX.out.bl.trans (hb5.mono (Nat.le_of_lt HLX.out.un.lt));have hgw:w.heap.size+1 < gG:=Nat.lt_of_lt_of_eq HG2.out.lt HGg.out.symm;have HG5:=hid (HG2.out.belowB hbw hgw);have hfin:=fin_graph (c:=c5) HLX.out.un (by have:=HUl.out;omega) hb5 hO (by have:=HNx.out;omega) HG5.out.al (Nat.ne_of_lt hgw);rw [HNx.out] at hfin;have HFin:=hid hfin;have y2:=(HLX.out.un.below hb5).g2;have yff:=(HLX.out.un.below hb5).fz;have ylt:=(HLX.out.un.below hb5).lt;have HBW:=hid hbw;have HGW:=hid hgw;clear hown hg hnx hb5 hO hbw hgw hfin))
            obtain ⟨aU,cU,k0,k1,k2,hgr⟩:=HFin.out;have HGr:=hid hgr;have HB6:Hid (Below w.heap.size w (w5.setCell ⟨gG,2,none⟩ (.slice b5 S.nx c5))):=by
             have h1:Below gG w2 (w5.setCell ⟨gG,2,none⟩ (.slice b5 S.nx c5)):=HBW.out.setCell (p:=⟨gG,2,none⟩) (Nat.le_refl _) _;rw [HGg.out] at h1 ⊢;exact HB2.out.trans (h1.mono HB2.out.size)
            have HG6:Hid (GBox w (w5.setCell ⟨gG,2,none⟩ (.slice b5 S.nx c5)) (w.heap.size+1) (.int .i64 0) (.slice none 0 0) (.slice none 0 0)):=HG2.out.belowB (HBW.out.setCell (p:=⟨gG,2,none⟩) (Nat.le_refl _) _) HGW.out;have k3:gG < (w5.setCell ⟨gG,2,none⟩ (.slice b5 S.nx c5)).heap.size:=by simpa using ylt
            clear hgr HFin HG5 HBW y2 yff ylt HB5 HSrc HEl HCe hLr;generalize w5.setCell ⟨gG,2,none⟩ (.slice b5 S.nx c5)=W9 at *;obtain ⟨g0,g1,g2,gf,glt,gge,_⟩:=HG6.out;have HPo:Hid (LowPost w RR (.returned (.tuple #[.agg #[.int .i64 (nI:Int),.slice aU U.length cU,.slice b5 S.nx c5],.int .i64 0])) (((W9.setCell ⟨w.heap.size+1,0,none⟩ (.int .i64 (nI:Int))).setCell ⟨w.heap.size+1,1,none⟩ (.slice aU U.length cU)).setCell ⟨w.heap.size+1,2,none⟩ (.slice b5 S.nx c5))):=by
             rw [HF.out];exact ⟨_,rfl,HGr.out,below_store3g HB6.out gge _ _ _⟩
            go_wp2
            refine bodyPost_ret (v:=.tuple #[.agg #[.int .i64 (nI:Int),.slice aU U.length cU,.slice b5 S.nx c5],.int .i64 0]) (by simp [results,Tryz.results12,go_sem,g0,g1,g2]) rfl ?_
            exact HPo.out
  ·omega
 ·rw [if_neg he] at HRd;generalize (shapesL m).2.2=er at *;generalize (shapesL m).2.1=ei at *;have t1:(er != 0)=true:=by rw [bne_iff_ne];exact he
  have HF:=hid HRd.out.symm;obtain ⟨g0,g1,g2,gf,glt,gge,_⟩:=HG1.out;clear he hI;go_wp2
  refine bodyPost_ret (v:=.tuple #[.agg #[.int .i64 0,.slice none 0 0,.slice none 0 0],.int .i64 er]) (by simp [results,Tryz.results12,go_sem,g0,g1,g2]) rfl ?_
  exact lowPost_err HF.out HB1.out gge
end Go.Proofs.YtfgmmghmmfmdgaaGreat
