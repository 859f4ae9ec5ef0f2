/-
  Contracts of the functions that the statement reaches: ModV, EvO, PvG, PvH, LwC, LwG, LinJ, LjF, LjG, RhA, LjH, LjI.
-/
import Derived.Test.YtfgmmghmmfmdgaaGreatK43
set_option linter.all false
set_option maxRecDepth 100000
set_option maxHeartbeats 3200000
namespace Go.Proofs.YtfgmmghmmfmdgaaGreat
open Go.RowKit
open Go.Lib (hid)
theorem S11_keep {W w1:World} {p bl o:Nat} {q0 q1 p0 p1 p2 p3 p4 p5 p6 p7 p8:Value} (hh:Box2 W p q0 q1) (hbl:bl < W.heap.size)
  (hc:W.cell? ⟨bl,o,none⟩=some p0/\W.cell? ⟨bl,o+1,none⟩=some p1/\W.cell? ⟨bl,o+2,none⟩=some p2/\W.cell? ⟨bl,o+3,none⟩=some p3/\W.cell? ⟨bl,o+4,none⟩=some p4/\W.cell? ⟨bl,o+5,none⟩=some p5/\W.cell? ⟨bl,o+6,none⟩=some p6/\W.cell? ⟨bl,o+7,none⟩=some p7/\W.cell? ⟨bl,o+8,none⟩=some p8) (hb:Below W.heap.size W w1):
  w1.cell? ⟨p,0,none⟩=some q0/\w1.cell? ⟨p,1,none⟩=some q1/\w1.cell? ⟨bl,o,none⟩=some p0/\w1.cell? ⟨bl,o+1,none⟩=some p1/\w1.cell? ⟨bl,o+2,none⟩=some p2/\w1.cell? ⟨bl,o+3,none⟩=some p3/\w1.cell? ⟨bl,o+4,none⟩=some p4/\w1.cell? ⟨bl,o+5,none⟩=some p5/\w1.cell? ⟨bl,o+6,none⟩=some p6/\w1.cell? ⟨bl,o+7,none⟩=some p7/\w1.cell? ⟨bl,o+8,none⟩=some p8:=by
 obtain ⟨h0,h1,h2,h3,h4,h5,h6,h7,h8⟩:=hc;exact ⟨(hb.cell hh.lt).trans hh.c0,(hb.cell hh.lt).trans hh.c1,(hb.cell hbl).trans h0,(hb.cell hbl).trans h1,(hb.cell hbl).trans h2,(hb.cell hbl).trans h3,(hb.cell hbl).trans h4,(hb.cell hbl).trans h5,(hb.cell hbl).trans h6,(hb.cell hbl).trans h7,(hb.cell hbl).trans h8⟩
theorem r13Of {w:World} {m:ModL} {a1 a2:Option Addr} (c1 c2:Nat) (h1:Ints w Any a1 m.input) (h2:LaysAt w a2 m.layers) (hr:∀ l ∈ m.layers,LayRange l) (hs:∀ l ∈ m.layers,LayLe l):
  Calls Tryz.prog 36 #[.agg #[.slice a1 m.input.length c1,.slice a2 m.layers.length c2]] w (OfPost w (shapesL m)):=by
 have q1:=h1.len;have q2:=h2.len;obtain ⟨H1,H2,HRg,HSh⟩:=hd4 h1 h2 hr hs;generalize hR:shapesL m=RR;have HR:=hid hR;unfold shapesL at hR;have HRd:=hid hR;clear h1 h2 hr hs hR
 go_enter Tryz.func36,Tryz.ntmps36
 go_upto_region 1 with fail
 have hb0:=blA w (.cells #[.slice a1 m.input.length c1,.slice a2 m.layers.length c2] 25);have hx:=Box2.alloc w (.slice a1 m.input.length c1) (.slice a2 m.layers.length c2) 25;generalize w.alloc (.cells #[.slice a1 m.input.length c1,.slice a2 m.layers.length c2] 25)=W at *;obtain ⟨HB0,HX⟩:=hd2 hb0 hx;obtain ⟨x0,x1,xf,xlt⟩:=hx;clear hb0
 go_wp2_with fail
 refine (r12Valid c1 c2 (H1.out.below HB0.out) (H2.out.below HB0.out) HRg.out HSh.out).mono ?_
 rintro e w1 ⟨rfl,hb1⟩;have HX1:=hid (HX.out.below hb1);have HB1:=htr HB0 hb1;clear hb1 x0 x1 xf xlt
 cases hvm:validM m with
 | false=>
  have HF:Hid (RR=([],0,1)):=by unfold Hid;rw [<- HRd.out,hvm];rfl
  clear hvm;go_wp2
  refine bodyPost_ret (results_tmp3 rfl _ _ _) rfl ?_
  exact ofPost_err HF.out HB1.out
 | true=>
  have HRe:Hid (shapesFrom m.input [] m.layers=RR):=by have:=HRd.out;rw [hvm,if_pos rfl] at this;exact this
  have hv:=validM_at hvm;have HL64:=hid hv.2.1;have hl64:=hv.2.1;obtain ⟨HVI,HAt⟩:=hd2 hv.1 hv.2.2;obtain ⟨x0,x1,xf,xlt⟩:=HX1.out;clear hvm hv;go_wp2;clear x0 x1 xf xlt
  go_loopw [5,6] (fun u i wr=>∃ (j:Nat) (xs:List Value) (T:List (List Int)),j<=m.layers.length/\i=.int .i64 (j:Int)/\Hid (T.length=j)/\Hid (shapesFrom m.input T (m.layers.drop j)=RR)/\Hid (T.all validL=true)/\Hid (OwnSS wr w1.heap.size 22 u xs T)/\Hid (Below w1.heap.size w1 wr)) (fun _ i _=>m.layers.length - (intOf i).toNat)
  case atStart=>exact ⟨0,[],[],Nat.zero_le _,rfl,rfl,HRe.out,rfl,OwnSS.nil _ _ _,Below.refl _ _⟩
  case round=>
   obtain ⟨j,xs,T,hj,rfl,HTl,HS,HTv,HOw,HB⟩:=hrel;have hbw:=HB1.out.trans (HB.out.mono HB1.out.size);obtain ⟨av,cv,hu,hT⟩:=HOw.out.intss (by rw [HTl.out];omega);rw [HTl.out] at hu;subst hu
   by_cases hlt:j < m.layers.length
   ·obtain ⟨x0,x1,xf,xlt⟩:=HX1.out.below HB.out;obtain ⟨bl,ol,l,rfl,hbl,hl,b1,b2,d1,d2,⟨l0,l1,l2,l3,l4,l5,l6,l7,l8⟩,r1,r2⟩:=(H2.out.below hbw).pick hlt;have hmem:=List.mem_of_getElem? hl;have hdrop:m.layers.drop j=l::m.layers.drop (j+1):=by
     rw [List.drop_eq_getElem_cons hlt]
     congr 1
     rw [List.getElem?_eq_getElem hlt] at hl;exact Option.some.inj hl
    have HStep:Hid ((if (outSL m.input T l).2=0 then shapesFrom m.input (T++[(outSL m.input T l).1]) (m.layers.drop (j+1)) else ([],(j:Int),(outSL m.input T l).2))=RR):=by
     have:=HS.out;rw [hdrop,shapesFrom_cons,HTl.out] at this;exact this
    have HO:=hid (fun W (hb:Below wr.heap.size wr W)=>r13Out (w:=W) (u:=.agg #[.int .i64 l.kind,.int .i64 l.frm,.int .i64 l.out,.int .i64 l.kh,.int .i64 l.kw,.int .i64 l.stride,.int .i64 l.pad,.slice b1 l.weights.length d1,.slice b2 l.bias.length d2]) c1 cv (H1.out.below (hbw.trans (hb.mono hbw.size))) ((hT.mono (F':=Any) (fun _ _ _=>trivial)).below hb) ⟨b1,b2,d1,d2,rfl,r1.below hb,r2.below hb⟩ (HRg.out l hmem) (HSh.out l hmem) (by rw [HTl.out];omega));have hlay:=HAt.out j l hl;have HSev:Hid ((outSL m.input T l).2 ≠ 0->(outSL m.input T l).2=7):=fun h=>outSL_seven HVI.out (by rw [HTl.out];omega) (by rw [HTl.out];exact hlay) HTv.out h
    have HVal:Hid ((outSL m.input T l).2=0->validL (outSL m.input T l).1=true):=fun h=>outSL_valid h
    have p1:=r1.len;have p2:=r2.len;have HLy:Hid (LayAt wr bl (ol+j * 9) l/\bl < wr.heap.size/\Box2 wr w.heap.size (.slice a1 m.input.length c1) (.slice (some ⟨bl,ol,none⟩) m.layers.length c2)):=⟨⟨b1,b2,d1,d2,⟨l0,l1,l2,l3,l4,l5,l6,l7,l8⟩,r1,r2⟩,hbl,HX1.out.below HB.out⟩
    have HCe:Hid (wr.cell? ⟨bl,ol+j * 9,none⟩=some (.int .i64 l.kind)/\wr.cell? ⟨bl,ol+j * 9+1,none⟩=some (.int .i64 l.frm)/\wr.cell? ⟨bl,ol+j * 9+2,none⟩=some (.int .i64 l.out)/\wr.cell? ⟨bl,ol+j * 9+3,none⟩=some (.int .i64 l.kh)/\wr.cell? ⟨bl,ol+j * 9+4,none⟩=some (.int .i64 l.kw)/\wr.cell? ⟨bl,ol+j * 9+5,none⟩=some (.int .i64 l.stride)/\wr.cell? ⟨bl,ol+j * 9+6,none⟩=some (.int .i64 l.pad)/\wr.cell? ⟨bl,ol+j * 9+7,none⟩=some (.slice b1 l.weights.length d1)/\wr.cell? ⟨bl,ol+j * 9+8,none⟩=some (.slice b2 l.bias.length d2)):=⟨l0,l1,l2,l3,l4,l5,l6,l7,l8⟩
    rw [HTl.out] at HO;have HO2:=hid (fun W (hb:Below wr.heap.size wr W)=>(HO.out W hb).mono fun e w' (h:OutPost W (outSL m.input T l) e w')=>(⟨h,hb.trans (h.2.mono hb.size)⟩:OutPost W (outSL m.input T l) e w'/\Below wr.heap.size wr w'));have xbl:Below wr.heap.size wr wr.drew:=(Below.refl _ _).drew;have hli:(0:Int)<=(j:Int):=by omega
    have hli2:(j:Int) < (m.layers.length:Int):=by omega
    generalize outSL m.input T l=P at *;obtain ⟨o,er⟩:=P;simp only at HStep HSev HVal;have hjm:j * 9=j * 9:=rfl;clear hmem hl hdrop hbw hT r1 r2 HS hlay HO l0 l1 l2 l3 l4 l5 l6 l7 l8 hjm
    go_upto_region 7 with fail
    clear x0 x1 xf xlt
    go_region_held3 (fun w'=>w'.cell? ⟨w.heap.size,0,none⟩=some (.slice a1 m.input.length c1)/\w'.cell? ⟨w.heap.size,1,none⟩=some (.slice (some ⟨bl,ol,none⟩) m.layers.length c2)/\w'.cell? ⟨bl,ol+j * 9,none⟩=some (.int .i64 l.kind)/\w'.cell? ⟨bl,ol+j * 9+1,none⟩=some (.int .i64 l.frm)/\w'.cell? ⟨bl,ol+j * 9+2,none⟩=some (.int .i64 l.out)/\w'.cell? ⟨bl,ol+j * 9+3,none⟩=some (.int .i64 l.kh)/\w'.cell? ⟨bl,ol+j * 9+4,none⟩=some (.int .i64 l.kw)/\w'.cell? ⟨bl,ol+j * 9+5,none⟩=some (.int .i64 l.stride)/\w'.cell? ⟨bl,ol+j * 9+6,none⟩=some (.int .i64 l.pad)/\w'.cell? ⟨bl,ol+j * 9+7,none⟩=some (.slice b1 l.weights.length d1)/\w'.cell? ⟨bl,ol+j * 9+8,none⟩=some (.slice b2 l.bias.length d2))
     (first | exact S11_keep HLy.out.2.2 HLy.out.2.1 HCe.out (by assumption))
     (first
      | (go_at_call 62; refine (HO2.out _ ?hb).mono ?_
         case hb=>assumption
         rintro e w2 ⟨⟨⟨a5,c5,rfl,hI5,hc5⟩,hb9⟩,p3⟩))
    all_goals
    have hb2:Below wr.heap.size wr w2:=p3;have HB2:=htr HB hb2;obtain ⟨HOw2,HI5,HC5⟩:=hd3 (HOw.out.frame hb2) hI5 hc5;have HLt:Hid (∀ b,(Value.slice av j cv).ownBlock=some b->b < wr.heap.size):=fun b hb=>HOw.out.lt b hb
    have hgeV:Hid (w1.heap.size<=wr.heap.size):=HB.out.size;have HX2:=hid (HX1.out.below HB2.out);clear hI5 hc5 hb2 p3 hb9 HO2 xbl HLy HCe
    by_cases he:er=0
    ·have HStep2:Hid (shapesFrom m.input (T++[o]) (m.layers.drop (j+1))=RR):=by have:=HStep.out;rw [if_pos he] at this;exact this
     have t1:(er != 0)=false:=by rw [he];rfl
     have t2:(er==0)=true:=by rw [he];rfl
     have t3:decide (¬ er=0)=false:=by simp [he]
     obtain ⟨HTj,HV2⟩:=hd2 (show j < 64 by omega) (HVal.out he);clear he
     go_wp2_with (at_builtin;refine wpList_app1 rfl (.tmp 34) (.tmp 36) 65 rfl w1.heap.size 22 (.slice none 0 0) 24 Tryz.underlying65 (by kernel_rfl) rfl (.slice av j cv) j xs rfl (by have h:=HOw2.out.own;rw [HTl.out] at h;exact h) (.slice a5 o.length c5) rfl rfl (by have:=HTj.out;omega) (by have:=HTj.out;unfold maxLen;omega) (by exact HB2.out.size) ?_;intro v' w' hown hg hn2;have HOwn:=hid hown;have HG:=hid hg;have HN2:=hid hn2;clear hown hg hn2)
     have happ:=HOw2.out.app (l:=o) HI5.out HC5.out (fun b hb=>⟨Nat.le_trans hgeV.out hb,fun e=>by have:=HLt.out b e;have h2:wr.heap.size<=b:=hb;omega⟩) (by rw [HTl.out];exact HOwn.out) HG.out HN2.out;obtain ⟨HApp,HB3⟩:=hd2 happ (HB2.out.grown HG.out HB2.out.size (fun k hk=>(HOw2.out.own.lt k hk).1));clear happ;go_roundw
     case rel=>exact ⟨j+1,_,T++[o],hlt,by go_num,by unfold Hid;rw [List.length_append,HTl.out];rfl,HStep2.out,by unfold Hid;rw [List.all_append,HTv.out,List.all_cons,List.all_nil,HV2.out];rfl,HApp.out,HB3.out⟩
     case measure=>simp [intOf];omega
    ·have HF:Hid (RR=([],(j:Int),7)):=by unfold Hid;rw [<- HStep.out,if_neg he,HSev.out he]
     have t1:(er != 0)=true:=by rw [bne_iff_ne];exact he
     have t2:(er==0)=false:=by rw [beq_eq_false_iff_ne];exact he
     have t3:decide (¬ er=0)=true:=by simp [he]
     clear he;go_wp2
     refine bodyPost_ret (results_tmp3 rfl _ _ _) rfl ?_
     exact ofPost_err HF.out (HB1.out.trans (HB2.out.mono HB1.out.size))
   ·obtain rfl:j=m.layers.length:=by omega
    have HF:Hid (RR=(T,0,0)):=by
     have h:=HS.out;rw [List.drop_length] at h;exact h.symm
    obtain ⟨HT,HBw⟩:=hd2 hT hbw;obtain ⟨x0,x1,xf,xlt⟩:=HX1.out.below HB.out;clear hT hbw;go_wp2
    refine bodyPost_ret (results_tmp3 rfl _ _ _) rfl ?_
    rw [HF.out];exact ⟨⟨av,cv,by simp only [HTl.out];rfl,HT.out.mono (fun b _ hb=>Nat.le_trans HB1.out.size hb)⟩,HBw.out⟩
theorem results_tmp2 {fn:Func} {t u:Tmp} (h:fn.results=#[.tmp t,.tmp u]) (tmps:Array Value) (P:Program) (w:World):
  (results fn tmps).run P w=.ok (.tuple #[tmps.getD t undef,tmps.getD u undef]) w:=by
 simp [results,h]
theorem validR_ratL (q:Rat):validR (ratL q)=true:=by
 unfold validR;rw [canonL_ratL,ratOf_ratL];exact decide_eq_true rfl
theorem small_num {q:Rat} (h:smallR (ratL q)=true):q.den<=4294967296/\q.num.natAbs<=18446744073709551616:=by
 unfold smallR at h;rw [Bool.and_eq_true,decide_eq_true_eq,decide_eq_true_eq] at h;obtain ⟨h1,h2⟩:=h
 constructor
 ·by_cases hd:q.den=1
  ·omega
  ·have e:(ratL q).den=limbs q.den:=by simp [ratL,hd]
   rw [e] at h2;have:=limbs_len_lt q.den;exact Nat.le_of_lt (Nat.lt_of_lt_of_le this (Nat.le_trans (Nat.pow_le_pow_right (by omega) h2) (by omega)))
 ·have e:(ratL q).num=limbs q.num.natAbs:=rfl;rw [e] at h1;have:=limbs_len_lt q.num.natAbs;exact Nat.le_of_lt (Nat.lt_of_lt_of_le this (Nat.le_trans (Nat.pow_le_pow_right (by omega) h1) (by decide)))
theorem little_back {L:List RatL} (h:littleL L=true):L=(L.map ratOf).map ratL/\∀ q ∈ L.map ratOf,q.den<=4294967296/\q.num.natAbs<=18446744073709551616:=by
 unfold littleL at h;rw [Bool.and_eq_true] at h;have hb:=validR_back h.2
 refine ⟨hb,fun q hq=>small_num ?_⟩
 exact List.all_eq_true.1 h.1 _ (by rw [hb];exact List.mem_map_of_mem hq)
theorem small_of {l:LayL} (h:okLay l=true):SmallL l:=by
 unfold okLay at h;simp only [Bool.and_eq_true,decide_eq_true_eq] at h;obtain ⟨h1,h2,h3,h4⟩:=h
 refine ⟨fun q hq=>?_,by rw [List.length_append];simp [wq,bq];omega⟩
 rcases List.mem_append.1 hq with hq | hq
 ·exact (little_back h3).2 q hq
 ·exact (little_back h4).2 q hq
theorem pow_room {a b c:Nat} (M:Nat) (hM:2<=M) (h:a+b+2<=c) {x y:Nat} (hx:x<=M^a) (hy:y<=M^b):x * y+y < M^c:=by
 have h1:x * y<=M^(a+b):=by rw [Nat.pow_add];exact Nat.mul_le_mul hx hy
 have h2:M^b<=M^(a+b):=Nat.pow_le_pow_right (by omega) (by omega);have h4:M^(a+b+2)<=M^c:=Nat.pow_le_pow_right (by omega) h;have h5:0 < M^(a+b):=Nat.pow_pos (by omega);have h6:M^(a+b+2)=M^(a+b) * (M * M):=by rw [Nat.pow_add,Nat.pow_two]
 have h7:4<=M * M:=Nat.mul_le_mul hM hM;have h8:M^(a+b) * 4<=M^(a+b) * (M * M):=Nat.mul_le_mul_left _ h7;omega
theorem pow_le3 {M C:Nat} (hC:C<=M^3) (k:Nat):C^k<=M^(3 * k):=by rw [Nat.pow_mul];exact Nat.pow_le_pow_left hC k
theorem room_gen (M C U p q u:Nat) (hM:2<=M) (hC:C<=M^3) (hU:U<=M^u) {W n c:Nat} (hW:W<=M^n) (hc:3+(3 * q+u)+(n+p * q+p)+2<=c):∀ D' B',D'<=W * (M^p)^q->B'<=C^q * U->(C * B') * (D' * M^p)+D' * M^p < M^c:=by
 intro D B hD hB;have h1:B<=M^(3 * q+u):=Nat.le_trans hB (by rw [Nat.pow_add];exact Nat.mul_le_mul (pow_le3 hC q) hU);have h2:C * B<=M^(3+(3 * q+u)):=by rw [Nat.pow_add M 3];exact Nat.mul_le_mul hC h1
 have h3:D<=M^(n+p * q):=Nat.le_trans hD (by rw [Nat.pow_add,Nat.pow_mul];exact Nat.mul_le_mul_right _ hW);have h4:D * M^p<=M^(n+p * q+p):=by rw [Nat.pow_add M (n+p * q)];exact Nat.mul_le_mul_right _ h3
 exact pow_room M hM hc h2 h4
theorem room_ofU {W U:Nat} {n u:Nat} (hW:W<=4294967296^n) (hU:U<=4294967296^u) (hn:n+u<=400):RoomK 12 W U:=by
 intro D B hD hB;unfold Room;obtain ⟨p,hp,e⟩:=WQ_pow;rw [e] at hD ⊢;have hc:3+(3 * 12+u)+(n+p * 12+p)+2<=524285:=by omega
 generalize (524285:Nat)=c at hc ⊢;exact room_gen 4294967296 9671406556917033397649408 U p 12 u (by omega) (by decide) hU hW hc D B hD hB
theorem room_of {W:Nat} {n:Nat} (hW:W<=4294967296^n) (hn:n<=390):RoomK 12 W 18446744073709551616:=room_ofU (u:=2) hW (by decide) (by omega)
structure Paid (m:ModL) (L:List RatL):Prop where
 back:L=(L.map ratOf).map ratL
 sm:∀ l ∈ m.layers,SmallL l
 room:∃ D,0 < D/\BdL D 18446744073709551616 (L.map ratOf)/\RoomK 12 D 18446744073709551616
 lens:m.layers.length<=8
 xl:L.length<=30
theorem fair_paid {m:ModL} {L:List RatL} (h:fairE m L=true):Paid m L:=by
 unfold fairE at h;simp only [Bool.and_eq_true,decide_eq_true_eq] at h;obtain ⟨h1,h2,h3,h4,h5,h6⟩:=h;obtain ⟨hb,hs⟩:=little_back h6;obtain ⟨W,w1,w2,w3⟩:=BdL.small _ hs;rw [List.length_map] at w2;exact ⟨hb,fun l hl=>small_of (List.all_eq_true.1 h5 l hl),⟨W,w1,w3,room_of w2 (by omega)⟩,h1,h3⟩
def exD:LayL:=⟨1,0,1,0,0,0,0,[ratL 1,ratL (-1)],[ratL 0]⟩
def exR:LayL:=⟨5,0,0,0,0,0,0,[],[]⟩
def exM:ModL:=⟨[2],[exD,exR]⟩
theorem ratL_one:ratL 1=⟨false,[1],[]⟩:=by
 have:=ratL_int 1;rw [show ((1:Int):Rat)=1 from rfl] at this;rw [this,show (1:Int).natAbs=1 from rfl,limbs_one];rfl
theorem ratL_mone:ratL (-1)=⟨true,[1],[]⟩:=by
 have:=ratL_int (-1);rw [show (((-1:Int)):Rat)= -1 from rfl] at this;rw [this,show (-1:Int).natAbs=1 from rfl,limbs_one];rfl
theorem exD_nums:numsB exD=true:=by unfold numsB exD;simp [validR_ratL]
theorem exR_nums:numsB exR=true:=rfl
theorem exD_ok:layOK exD 0=true:=by unfold layOK;rw [exD_nums];decide
theorem exR_ok:layOK exR 1=true:=by unfold layOK;rw [exR_nums];decide
theorem exD_out:outSL [2] [] exD=([1],0):=by
 unfold outSL;rw [show layOK exD (([]:List (List Int)).length:Int)=true from exD_ok]
 decide+kernel
theorem exR_out:outSL [2] [[1]] exR=([1],0):=by
 unfold outSL;rw [show layOK exR (([[1]]:List (List Int)).length:Int)=true from exR_ok]
 decide+kernel
theorem exM_valid:validM exM=true:=by
 show (validL [2] && (decide (2<=64) && (layOK exD 0 && (layOK exR (0+1) && true))))=true
 rw [exD_ok,show layOK exR (0+1)=true from exR_ok]
 decide
theorem exM_shapes:shapesL exM=([[1],[1]],0,0):=by
 unfold shapesL;rw [if_pos exM_valid];show shapesFrom [2] [] [exD,exR]=_
 unfold shapesFrom;rw [exD_out];show shapesFrom [2] [[1]] [exR]=_
 unfold shapesFrom;rw [exR_out];rfl
theorem exM_fair (p q:Rat) (hp:smallR (ratL p)=true) (hq:smallR (ratL q)=true):fairE exM ([p,q].map ratL)=true:=by
 have s1:smallR (ratL 1)=true:=by rw [ratL_one];rfl
 have s2:smallR (ratL (-1))=true:=by rw [ratL_mone];rfl
 have s0:smallR (ratL 0)=true:=by rw [ratL_zeroE];rfl
 have hl:littleL ([p,q].map ratL)=true:=by simp [littleL,hp,hq,validR_ratL]
 have hw:littleL [ratL 1,ratL (-1)]=true:=by simp [littleL,s1,s2,validR_ratL]
 have hb:littleL [ratL 0]=true:=by simp [littleL,s0,validR_ratL]
 have o1:okLay exD=true:=by
  unfold okLay;rw [show exD.weights=[ratL 1,ratL (-1)] from rfl,show exD.bias=[ratL 0] from rfl,hw,hb];rfl
 have o2:okLay exR=true:=rfl;unfold fairE;rw [hl,show exM.layers=[exD,exR] from rfl,List.all_cons,List.all_cons,o1,o2,show ([p,q].map ratL).length=2 from rfl]
 decide+kernel
theorem exM_range:∀ l ∈ exM.layers,LayRange l:=by
 intro l hl;have:l=exD ∨ l=exR:=by simpa [exM] using hl
 rcases this with rfl | rfl <;> (unfold LayRange I64;simp [exD,exR])
theorem exM_le:∀ l ∈ exM.layers,LayLe l:=by
 intro l hl;have:l=exD ∨ l=exR:=by simpa [exM] using hl
 have r1:RatLe (ratL 1) 1048576:=by rw [ratL_one];exact ⟨by simp,by simp⟩
 have r2:RatLe (ratL (-1)) 1048576:=by rw [ratL_mone];exact ⟨by simp,by simp⟩
 have r0:RatLe (ratL 0) 1048576:=by rw [ratL_zeroE];exact ⟨by simp,by simp⟩
 rcases this with rfl | rfl
 ·refine ⟨fun x hx=>?_,fun x hx=>?_⟩
  ·have:x=ratL 1 ∨ x=ratL (-1):=by simpa [exD] using hx
   rcases this with rfl | rfl <;> assumption
  ·have:x=ratL 0:=by simpa [exD] using hx
   subst this;exact r0
 ·exact ⟨by simp [exR],by simp [exR]⟩
theorem cntL_app:∀ {L:List LayL} {T:List (List Int)} (l:LayL) (s:List Int),T.length=L.length->cntL (L++[l]) (T++[s])=cntL L T+cnt1 l (sizeL s)
 | [],[],l,s,_=>by
  show cnt1 l (sizeL s)+0=0+_
  omega
 | a::L,t::T,l,s,h=>by
  show cnt1 a (sizeL t)+cntL (L++[l]) (T++[s])=(cnt1 a (sizeL t)+cntL L T)+_
  rw [cntL_app l s (by simpa using h)];omega
 | [],_::_,_,_,h=>by simp at h
 | _::_,[],_,_,h=>by simp at h
structure CntOK (L:List LayL) (T:List (List Int)):Prop where
 len:T.length=L.length
 few:L.length<=64
 ok:∀ (j:Nat) (l:LayL) (s:List Int),L[j]? =some l->T[j]? =some s->0<=sizeL s/\sizeL s<=16384/\(l.kind=3->1<=l.kh * l.kw/\l.kh * l.kw<=262144)
theorem CntOK.step {L:List LayL} {T:List (List Int)} (h:CntOK L T) {j:Nat} {l:LayL} {s:List Int} (hl:L[j]? =some l) (hs:T[j]? =some s):cntL (L.take (j+1)) (T.take (j+1))=cntL (L.take j) (T.take j)+cnt1 l (sizeL s):=by
 rw [List.take_add_one,List.take_add_one,hl,hs];exact cntL_app l s (by rw [List.length_take,List.length_take,h.len])
theorem CntOK.cnt1 {L:List LayL} {T:List (List Int)} (h:CntOK L T) {j:Nat} {l:LayL} {s:List Int} (hl:L[j]? =some l) (hs:T[j]? =some s):0<=cnt1 l (sizeL s)/\cnt1 l (sizeL s)<=4294967296:=by
 obtain ⟨h1,h2,h3⟩:=h.ok j l s hl hs;unfold Go.Proofs.YtfgmmghmmfmdgaaGreat.cnt1
 split
 ·omega
 ·split
  ·rename_i hk
   obtain ⟨k1,k2⟩:=h3 hk
   refine ⟨Int.mul_nonneg (by omega) h1,?_⟩
   have:=Int.mul_le_mul (show l.kh * l.kw - 1<=262144 by omega) h2 h1 (by omega);omega
  ·omega
theorem CntOK.bd {L:List LayL} {T:List (List Int)} (h:CntOK L T):∀ j,j<=L.length->0<=cntL (L.take j) (T.take j)/\cntL (L.take j) (T.take j)<=(j:Int) * 4294967296
 | 0,_=>by simp [cntL]
 | j+1,hj=>by
  have hl:L[j]? =some L[j]:=List.getElem?_eq_getElem (by omega);have hs:T[j]? =some (T[j]'(by rw [h.len];omega)):=List.getElem?_eq_getElem _;obtain ⟨a1,a2⟩:=h.bd j (by omega);obtain ⟨b1,b2⟩:=h.cnt1 hl hs;rw [h.step hl hs];omega
theorem lCnt {w:World} {a aS:Option Addr} {L:List LayL} {T:List (List Int)} {F:Nat->Prop} (c cS:Nat) (h1:LaysAt w a L) (h2:Intss w F aS T) (hO:CntOK L T):
  Calls Tryz.prog 32 #[.slice a L.length c,.slice aS T.length cS] w (fun e w'=>e=.returned (.int .i64 (cntL L T))/\Below w.heap.size w w'):=by
 obtain ⟨H1,H2,HO,HTl⟩:=hd4 h1 h2 hO hO.len;have hL6:=hO.few;have hTL:T.length<=64:=by rw [hO.len];exact hL6
 clear h1 h2 hO
 go_enter Tryz.func32,Tryz.ntmps32
 go_wp2
 go_loopw [5,10] (fun v i wr=>∃ (j:Nat) (n:Int),j<=L.length/\v=.int .i64 n/\i=.int .i64 (j:Int)/\Hid (n=cntL (L.take j) (T.take j))/\Hid (Below w.heap.size w wr)) (fun _ i _=>L.length - (intOf i).toNat)
 case atStart=>exact ⟨0,0,Nat.zero_le _,rfl,rfl,rfl,Below.refl _ _⟩
 case round=>
  obtain ⟨j,n,hj,rfl,rfl,HN,HB⟩:=hrel;have hnb:=HO.out.bd j hj;rw [<- HN.out] at hnb
  by_cases hlt:j < L.length
  ·obtain ⟨bl,ol,l,ha2,hbl,hl,b1,b2,d1,d2,⟨l0,l1,l2,l3,l4,l5,l6,l7,l8⟩,r1,r2⟩:=H1.out.pick hlt;obtain ⟨bT,oT,t,aT,ct,haT,tc0,hTi,htc,hIt,hbT,_⟩:=H2.out.pickc (k:=j) (by rw [HTl.out];exact hlt);have hc9:=fun o=>HB.out.cell (p:=⟨bl,o,none⟩) hbl
   have l0:=(hc9 _).trans l0;have l1:=(hc9 _).trans l1;have l2:=(hc9 _).trans l2;have l3:=(hc9 _).trans l3;have l4:=(hc9 _).trans l4;have l5:=(hc9 _).trans l5;have l6:=(hc9 _).trans l6;have l7:=(hc9 _).trans l7;have l8:=(hc9 _).trans l8;have hbl2:=Nat.lt_of_lt_of_le hbl HB.out.size;have hstep:=HO.out.step hl hTi;obtain ⟨z0,z1,z3⟩:=HO.out.ok j l t hl hTi;have hcb:=HO.out.cnt1 hl hTi;have hal:=blA wr (layO l b1 d1 b2 d2 44);have HBx9:=hid (Box9.alloc wr (.int .i64 l.kind) (.int .i64 l.frm) (.int .i64 l.out) (.int .i64 l.kh) (.int .i64 l.kw) (.int .i64 l.stride) (.int .i64 l.pad) (.slice b1 l.weights.length d1) (.slice b2 l.bias.length d2) 44);have HBj:=htr HB hal;have tc0:=(HBj.out.cell (p:=⟨bT,oT+j,none⟩) hbT).trans tc0;have hbT2:=Nat.lt_of_lt_of_le hbT HBj.out.size;obtain ⟨HSz,HStep,HN1⟩:=hd3 (fun X (hb:Below w.heap.size w X)=>tSize ct (hIt.below hb)) hstep HN.out;have hjT:j < T.length:=by rw [HTl.out];exact hlt
   subst ha2 haT;clear hl hTi hIt hal hc9 r1 r2 hstep HN htc
   go_upto_region 5 with fail
   generalize wr.alloc (layO l b1 d1 b2 d2 44)=wj at *;clear l0 l1 l2 l3 l4 l5 l6 l7 l8;obtain ⟨l0,l1,l2,l3,l4,l5,l6,l7,l8,l9⟩:=HBx9.out;generalize hzz:sizeL t=z at *;have HSzz:=HSz;have HSz':=hid (HSz.out wj HBj.out);clear HSz hzz;have HRel:Hid (∀ (d:Int) (X:World),cnt1 l z=d->Below w.heap.size w X->n+d=cntL (L.take (j+1)) (T.take (j+1))/\Below w.heap.size w X):=fun d X h hb=>by
    rw [HStep.out,h,HN1.out];exact ⟨rfl,hb⟩
   by_cases hk5:l.kind=5
   ·have hc:cnt1 l z=z:=by unfold cnt1;rw [if_pos hk5]
    rw [hk5] at l0
    go_wp2_with fail
    refine HSz'.out.mono ?_
    rintro e w2 ⟨rfl,rfl⟩;go_wp2;go_roundw
    case rel=>
     obtain ⟨g1,g2⟩:=HRel.out z _ hc HBj.out;exact ⟨j+1,n+z,hlt,rfl,by go_num,g1,g2⟩
    case measure=>simp [intOf];omega
   ·have q5:decide (l.kind=5)=false:=by simp [hk5]
    have q5b:(l.kind==5)=false:=by simp [hk5]
    by_cases hk3:l.kind=3
    ·obtain ⟨p,hp⟩:∃ p,p=l.kh * l.kw:=⟨_,rfl⟩
     obtain ⟨q,hq⟩:∃ q,q=(p - 1) * z:=⟨_,rfl⟩
     have hc:cnt1 l z=q:=by unfold cnt1;rw [if_neg hk5,if_pos hk3,hq,hp]
     obtain ⟨p1,p2⟩:=z3 hk3;rw [<- hp] at p1 p2;rw [hc] at hcb;have m1:IntKind.i64.wrap (l.kh * l.kw)=p:=by rw [<- hp];exact IntWalk.i64_in _ (by omega)
     have m2:IntKind.i64.wrap ((p - 1) * z)=q:=by rw [<- hq];exact IntWalk.i64_in _ (by omega)
     rw [hk3] at l0;have HSq:Hid (∀ k,Calls Tryz.prog 31 #[.slice aT t.length ct] (wj.drewN k) (fun e w'=>e=.returned (.int .i64 z)/\w'=wj.drewN k)):=fun k=>(HSzz.out _ (below_drewN HBj.out k)).mono fun _ _ h=>⟨h.1,h.2.symm⟩
     have HC:=hid hc;clear hp hq hc q5 q5b z3 hk3 hk5
     go_upto_region 9 with fail
     go_quiet ((go_at_call 31;exact Calls.quiet_of_same (HSq.out _)))
     go_wp2;go_roundw
     case rel=>
      obtain ⟨g1,g2⟩:=HRel.out q _ HC.out (below_drewN HBj.out nq);exact ⟨j+1,n+q,hlt,rfl,by go_num,g1,g2⟩
     case measure=>simp [intOf];omega
    ·have q3:decide (l.kind=3)=false:=by simp [hk3]
     have q3b:(l.kind==3)=false:=by simp [hk3]
     have hc:cnt1 l z=0:=by unfold cnt1;rw [if_neg hk5,if_neg hk3]
     go_wp2;go_roundw
     case rel=>
      obtain ⟨g1,g2⟩:=HRel.out 0 _ hc HBj.out;rw [Int.add_zero] at g1;exact ⟨j+1,n,hlt,rfl,by go_num,g1,g2⟩
     case measure=>simp [intOf];omega
  ·obtain rfl:j=L.length:=by omega
   have HF:Hid (n=cntL L T):=by
    have h:=HN.out;rw [List.take_of_length_le (Nat.le_refl _),List.take_of_length_le (by rw [HTl.out];exact Nat.le_refl _)] at h;exact h
   go_wp2
   refine bodyPost_ret (v:=.int .i64 n) (by simp [results,Tryz.results32,go_sem]) rfl ⟨by rw [HF.out],HB.out⟩
theorem CntOK.of {m:ModL} (h:(shapesL m).2.2=0):CntOK m.layers (shapesL m).1:=by
 rcases shapesL_cases m with ⟨_,k⟩ | ⟨hvm,⟨T,hch,hT⟩ | ⟨k,_⟩⟩
 ·rw [k] at h;simp at h
 ·rw [hT];have hl:=hch.1
  refine ⟨hl,?_,fun j l s hj hs=>?_⟩
  ·unfold validM at hvm;simp only [Bool.and_eq_true,decide_eq_true_eq] at hvm;exact hvm.2.1
  ·have ho:=hch.2 j s l hs hj;rw [List.nil_append] at ho;have h0:(outSL m.input (T.take j) l).2=0:=by rw [ho]
   have hv:=outSL_valid h0;rw [ho] at hv;have hz:1<=sizeL s/\sizeL s<=16384:=validL_size hv
   refine ⟨by omega,by omega,fun hk=>?_⟩
   cases (fit_of h0).1 with
   | pool q _ hq ht _ e1 e2 _ _ _ _ _=>
    have hb:=Win.len_bd hq ht;rw [q.one_len] at hb;rw [e1,e2];have h1:q.kh * q.kw<=262144:=Nat.le_trans (Nat.le_mul_of_pos_left _ hq.c1) hb.2.1;have h2:1<=q.kh * q.kw:=Nat.mul_pos hq.kh1 hq.kw1;rw [<- Int.natCast_mul];omega
   | dense R hk1=>omega
   | conv q O hk1=>omega
   | keep hk1=>omega
   | add hk1=>omega
 ·omega
theorem lCount {w:World} {m:ModL} {a1 a2:Option Addr} (c1 c2:Nat) (h1:Ints w Any a1 m.input) (h2:LaysAt w a2 m.layers) (hr:∀ l ∈ m.layers,LayRange l) (hs:∀ l ∈ m.layers,LayLe l):
  Calls Tryz.prog 25 #[.agg #[.slice a1 m.input.length c1,.slice a2 m.layers.length c2]] w (fun e w'=>e=.returned (.tuple #[.int .i64 (countL m).1,.int .i64 (countL m).2])/\Below w.heap.size w w'):=by
 have q1:=h1.len;have q2:=h2.len;obtain ⟨H1,H2,HRg,HSh⟩:=hd4 h1 h2 hr hs;generalize hR:countL m=RR;unfold countL at hR;have HRd:=hid hR;clear h1 h2 hr hs hR
 go_enter Tryz.func25,Tryz.ntmps25
 go_upto_region 1 with fail
 have hb0:=blA w (.cells #[.slice a1 m.input.length c1,.slice a2 m.layers.length c2] 25);have hx:=Box2.alloc w (.slice a1 m.input.length c1) (.slice a2 m.layers.length c2) 25;generalize w.alloc (.cells #[.slice a1 m.input.length c1,.slice a2 m.layers.length c2] 25)=W at *;obtain ⟨HB0,HX⟩:=hd2 hb0 hx;obtain ⟨x0,x1,xf,xlt⟩:=hx;clear hb0
 go_wp2_with fail
 refine (sOf c1 c2 (H1.out.below HB0.out) (H2.out.below HB0.out) HRg.out HSh.out).mono ?_
 rintro e w1 ⟨⟨aS,cS,rfl,hI⟩,hb1⟩;have HX1:=hid (HX.out.below hb1);have HB1:=htr HB0 hb1;clear hb1 x0 x1 xf xlt
 by_cases he:(shapesL m).2.2=0
 ·rw [if_pos he] at HRd;have HC:=hid (lCnt c2 cS (H2.out.below HB1.out) hI (CntOK.of he));obtain ⟨x0,x1,xf,xlt⟩:=HX1.out;clear hI;generalize cntL m.layers (shapesL m).1=n at HC HRd;generalize hT:(shapesL m).1.length=TL at *;have t1:(((shapesL m).2.2:Int) != 0)=false:=by rw [he];rfl
  rw [he];generalize (shapesL m).2.1=ei at *;clear he t1 hT
  go_wp2_with fail
  refine HC.out.mono ?_
  rintro e w2 ⟨rfl,hb2⟩;have HB2:=htr HB1 hb2;clear hb2 HC;go_wp2
  refine bodyPost_ret (results_tmp2 rfl _ _ _) rfl ?_
  rw [<- HRd.out];exact ⟨rfl,HB2.out⟩
 ·rw [if_neg he] at HRd;generalize (shapesL m).2.2=er at *;generalize (shapesL m).2.1=ei at *;have t1:(er != 0)=true:=by rw [bne_iff_ne];exact he
  have hRR:=HRd.out;subst hRR;clear he hI HRd;go_wp2
  refine bodyPost_ret (results_tmp2 rfl _ _ _) rfl ?_
  exact ⟨rfl,HB1.out⟩
theorem r16Count {w:World} {m:ModL} {a1 a2:Option Addr} (c1 c2:Nat) (h1:Ints w Any a1 m.input) (h2:LaysAt w a2 m.layers) (hr:∀ l ∈ m.layers,LayRange l) (hs:∀ l ∈ m.layers,LayLe l):
  Calls Tryz.prog 26 #[.agg #[.slice a1 m.input.length c1,.slice a2 m.layers.length c2]] w (fun e w'=>e=.returned (.tuple #[.int .i64 (countL m).1,.int .i64 (countL m).2])/\Below w.heap.size w w'):=by
 have q1:=h1.len;have q2:=h2.len;obtain ⟨H1,H2,HRg,HSh⟩:=hd4 h1 h2 hr hs;generalize hR:countL m=RR;unfold countL at hR;have HRd:=hid hR;clear h1 h2 hr hs hR
 go_enter Tryz.func26,Tryz.ntmps26
 go_upto_region 1 with fail
 have hb0:=blA w (.cells #[.slice a1 m.input.length c1,.slice a2 m.layers.length c2] 25);have hx:=Box2.alloc w (.slice a1 m.input.length c1) (.slice a2 m.layers.length c2) 25;generalize w.alloc (.cells #[.slice a1 m.input.length c1,.slice a2 m.layers.length c2] 25)=W at *;obtain ⟨HB0,HX⟩:=hd2 hb0 hx;obtain ⟨x0,x1,xf,xlt⟩:=hx;clear hb0
 go_wp2_with fail
 refine (r13Of c1 c2 (H1.out.below HB0.out) (H2.out.below HB0.out) HRg.out HSh.out).mono ?_
 rintro e w1 ⟨⟨aS,cS,rfl,hI⟩,hb1⟩;have HX1:=hid (HX.out.below hb1);have HB1:=htr HB0 hb1;clear hb1 x0 x1 xf xlt
 by_cases he:(shapesL m).2.2=0
 case neg=>
  rw [if_neg he] at HRd;generalize (shapesL m).2.2=er at *;generalize (shapesL m).2.1=ei at *;have t1:(er != 0)=true:=by rw [bne_iff_ne];exact he
  have hRR:=HRd.out;subst hRR;clear he hI HRd;go_wp2
  refine bodyPost_ret (results_tmp2 rfl _ _ _) rfl ?_
  exact ⟨rfl,HB1.out⟩
 rw [if_pos he] at HRd;obtain ⟨HO,H2'⟩:=hd2 (CntOK.of he) hI;obtain ⟨x0,x1,xf,xlt⟩:=HX1.out;clear hI;have t1:(((shapesL m).2.2:Int) != 0)=false:=by rw [he];rfl
 rw [he];clear he t1;generalize hei:(shapesL m).2.1=ei at *;clear hei;generalize (shapesL m).1=T at *;generalize m.layers=L at *;generalize m.input=I at *;have HTl:=hid HO.out.len;have hL6:=HO.out.few;have hTL:T.length<=64:=by rw [HO.out.len];exact hL6
 have H2l:=hid (H2.out.below HB1.out);go_wp2;clear x0 x1 xf xlt
 go_loopw [7,8] (fun v i wr=>∃ (j:Nat) (n:Int),j<=L.length/\v=.int .i64 n/\i=.int .i64 (j:Int)/\Hid (n=cntL (L.take j) (T.take j))/\Hid (Below w1.heap.size w1 wr)) (fun _ i _=>L.length - (intOf i).toNat)
 case atStart=>exact ⟨0,0,Nat.zero_le _,rfl,rfl,rfl,Below.refl _ _⟩
 case round=>
  obtain ⟨j,n,hj,rfl,rfl,HN,HB⟩:=hrel;have hnb:=HO.out.bd j hj;rw [<- HN.out] at hnb;obtain ⟨x0,x1,xf,xlt⟩:=HX1.out.below HB.out
  by_cases hlt:j < L.length
  ·obtain ⟨bl,ol,l,ha2,hbl,hl,b1,b2,d1,d2,⟨l0,l1,l2,l3,l4,l5,l6,l7,l8⟩,r1,r2⟩:=H2l.out.pick hlt;obtain ⟨bT,oT,t,aT,ct,haT,tc0,hTi,htc,hIt,hbT,_⟩:=H2'.out.pickc (k:=j) (by rw [HTl.out];exact hlt);have hc9:=fun o=>HB.out.cell (p:=⟨bl,o,none⟩) hbl
   have l0:=(hc9 _).trans l0;have l1:=(hc9 _).trans l1;have l2:=(hc9 _).trans l2;have l3:=(hc9 _).trans l3;have l4:=(hc9 _).trans l4;have l5:=(hc9 _).trans l5;have l6:=(hc9 _).trans l6;have l7:=(hc9 _).trans l7;have l8:=(hc9 _).trans l8;have hbl2:=Nat.lt_of_lt_of_le hbl HB.out.size;have hstep:=HO.out.step hl hTi;obtain ⟨z0,z1,z3⟩:=HO.out.ok j l t hl hTi;have hcb:=HO.out.cnt1 hl hTi;have hal:=blA wr (layO l b1 d1 b2 d2 44);have HBx9:=hid (Box9.alloc wr (.int .i64 l.kind) (.int .i64 l.frm) (.int .i64 l.out) (.int .i64 l.kh) (.int .i64 l.kw) (.int .i64 l.stride) (.int .i64 l.pad) (.slice b1 l.weights.length d1) (.slice b2 l.bias.length d2) 44);have HBj:=htr HB hal;have tc0:=(HBj.out.cell (p:=⟨bT,oT+j,none⟩) hbT).trans tc0;have hbT2:=Nat.lt_of_lt_of_le hbT HBj.out.size;obtain ⟨HSz,HStep,HN1⟩:=hd3 (fun X (hb:Below w1.heap.size w1 X)=>rSize ct (hIt.below hb)) hstep HN.out;have hjT:j < T.length:=by rw [HTl.out];exact hlt
   subst ha2 haT;clear hl hTi hIt hal hc9 r1 r2 hstep HN htc
   go_upto_region 9 with fail
   generalize wr.alloc (layO l b1 d1 b2 d2 44)=wj at *;clear l0 l1 l2 l3 l4 l5 l6 l7 l8;obtain ⟨l0,l1,l2,l3,l4,l5,l6,l7,l8,l9⟩:=HBx9.out;clear x0 x1 xf xlt;generalize hzz:sizeL t=z at *;have HSzz:=HSz;have HSz':=hid (HSz.out wj HBj.out);clear HSz hzz;have HRel:Hid (∀ (d:Int) (X:World),cnt1 l z=d->Below w1.heap.size w1 X->n+d=cntL (L.take (j+1)) (T.take (j+1))/\Below w1.heap.size w1 X):=fun d X h hb=>by
    rw [HStep.out,h,HN1.out];exact ⟨rfl,hb⟩
   by_cases hk5:l.kind=5
   ·have hc:cnt1 l z=z:=by unfold cnt1;rw [if_pos hk5]
    rw [hk5] at l0
    go_wp2_with fail
    refine HSz'.out.mono ?_
    rintro e w2 ⟨rfl,rfl⟩;go_wp2;go_roundw
    case rel=>
     obtain ⟨g1,g2⟩:=HRel.out z _ hc HBj.out;exact ⟨j+1,n+z,hlt,rfl,by go_num,g1,g2⟩
    case measure=>simp [intOf];omega
   ·have q5:decide (l.kind=5)=false:=by simp [hk5]
    have q5b:(l.kind==5)=false:=by simp [hk5]
    by_cases hk3:l.kind=3
    ·obtain ⟨p,hp⟩:∃ p,p=l.kh * l.kw:=⟨_,rfl⟩
     obtain ⟨q,hq⟩:∃ q,q=z * (p - 1):=⟨_,rfl⟩
     have hc:cnt1 l z=q:=by unfold cnt1;rw [if_neg hk5,if_pos hk3,hq,hp,Int.mul_comm]
     obtain ⟨p1,p2⟩:=z3 hk3;rw [<- hp] at p1 p2;rw [hc] at hcb;have m1:IntKind.i64.wrap (l.kh * l.kw)=p:=by rw [<- hp];exact IntWalk.i64_in _ (by omega)
     have m2:IntKind.i64.wrap (z * (p - 1))=q:=by rw [<- hq];exact IntWalk.i64_in _ (by omega)
     rw [hk3] at l0;have HSq:Hid (∀ k,Calls Tryz.prog 29 #[.slice aT t.length ct] (wj.drewN k) (fun e w'=>e=.returned (.int .i64 z)/\w'=wj.drewN k)):=fun k=>(HSzz.out _ (below_drewN HBj.out k)).mono fun _ _ h=>⟨h.1,h.2.symm⟩
     have HC:=hid hc;clear hp hq hc q5 q5b z3 hk3 hk5
     go_upto_region 12 with fail
     go_quiet ((go_at_call 29;exact Calls.quiet_of_same (HSq.out _)))
     go_wp2;go_roundw
     case rel=>
      obtain ⟨g1,g2⟩:=HRel.out q _ HC.out (below_drewN HBj.out nq);exact ⟨j+1,n+q,hlt,rfl,by go_num,g1,g2⟩
     case measure=>simp [intOf];omega
    ·have q3:decide (l.kind=3)=false:=by simp [hk3]
     have q3b:(l.kind==3)=false:=by simp [hk3]
     have hc:cnt1 l z=0:=by unfold cnt1;rw [if_neg hk5,if_neg hk3]
     go_wp2;go_roundw
     case rel=>
      obtain ⟨g1,g2⟩:=HRel.out 0 _ hc HBj.out;rw [Int.add_zero] at g1;exact ⟨j+1,n,hlt,rfl,by go_num,g1,g2⟩
     case measure=>simp [intOf];omega
  ·obtain rfl:j=L.length:=by omega
   have HF:Hid (n=cntL L T):=by
    have h:=HN.out;rw [List.take_of_length_le (Nat.le_refl _),List.take_of_length_le (by rw [HTl.out];exact Nat.le_refl _)] at h;exact h
   have HBw:=htr HB1 HB.out;go_wp2
   refine bodyPost_ret (results_tmp2 rfl _ _ _) rfl ?_
   rw [<- HRd.out,HF.out];exact ⟨rfl,HBw.out⟩
def isZF (v:Value):Bool:=match v with | .int .i64 _=>true | .slice _ _ _=>true | .func _ _ _=>true | .nilFunc=>true | _=>false
theorem AllB.zf32 {w:World} {g o:Nat} {x:Int} (h:AllB isZF w g):w.cell? ⟨g,o,none⟩ ≠ some (.int .u32 x):=fun e=>by have:=h o _ e;cases this
theorem AllB.zfb {w:World} {g o:Nat} {x:Bool} (h:AllB isZF w g):w.cell? ⟨g,o,none⟩ ≠ some (.bool x):=fun e=>by have:=h o _ e;cases this
theorem U32s.setZ {w:World} {g o:Nat} {u:Value} {a:Option Addr} {l:List Nat} (h:U32s w a l) (hg:AllB isZF w g):U32s (w.setCell ⟨g,o,none⟩ u) a l:=by
 by_cases hl:l=[]
 ·rw [hl];exact U32s.nil _ _
 obtain ⟨b,off,rfl,hb,hc⟩:=h.open hl;have hp:=List.length_pos_iff.2 hl;have hf:b ≠ g:=fun e=>by subst e;exact hg.zf32 (hc 0 hp)
 refine ⟨h.lim,h.len,h.row.imp id ?_⟩
 rintro ⟨b',off',e,_,hcc⟩;cases e;exact ⟨b,off,rfl,by simpa using hb,fun j d hj=>(cell_other (by exact hf)).trans (hcc j d hj)⟩
theorem RatC.setZ {w:World} {g o:Nat} {u:Value} {p1 p2 p3:Value} {q:Rat} (h:RatC w p1 p2 p3 q) (hg:AllB isZF w g):RatC (w.setCell ⟨g,o,none⟩ u) p1 p2 p3 q:=by
 obtain ⟨an,ad,cn,cd,e1,e2,e3,l1,l2,u1,u2⟩:=h.ex;exact ⟨an,ad,cn,cd,e1,e2,e3,l1,l2,u1.setZ hg,u2.setZ hg⟩
theorem terms_setZ {w:World} {g o:Nat} {u:Value} {a:Option Addr} {L:List (Nat × Rat)} (h:TermsAt w a L) (hg:AllB isZF w g):TermsAt (w.setCell ⟨g,o,none⟩ u) a L:=by
 refine ⟨h.len,?_⟩
 rcases h.row with rfl | ⟨b,off,rfl,hb,hc⟩
 ·exact .inl rfl
 ·by_cases hl:L=[]
  ·exact .inl hl
  ·have hp:=List.length_pos_iff.2 hl;obtain ⟨p0,p1,p2,p3,h0,h1,_,_,rfl,h4⟩:=hc 0 L[0] (List.getElem?_eq_getElem hp);obtain ⟨_,_,_,_,rfl,_⟩:=h4.ex;have hf:b ≠ g:=fun e=>by subst e;exact hg.zfb h1
   refine .inr ⟨b,off,rfl,by simpa using hb,fun j x hj=>?_⟩
   obtain ⟨p0,p1,p2,p3,h0,h1,h2,h3,h4⟩:=hc j x hj;exact ⟨p0,p1,p2,p3,(cell_other (by exact hf)).trans h0,(cell_other (by exact hf)).trans h1,(cell_other (by exact hf)).trans h2,(cell_other (by exact hf)).trans h3,h4.1,h4.2.setZ hg⟩
theorem FormP.setZ {w:World} {g o:Nat} {u:Value} {p0 p1 p2 p3:Value} {f:AffQ} (h:FormP w p0 p1 p2 p3 f) (hg:AllB isZF w g):FormP (w.setCell ⟨g,o,none⟩ u) p0 p1 p2 p3 f:=by
 obtain ⟨⟨a,c,e,hc,ht⟩,hr⟩:=h;exact ⟨⟨a,c,e,hc,terms_setZ ht hg⟩,hr.setZ hg⟩
theorem forms_setZ {w:World} {g o:Nat} {u:Value} {a:Option Addr} {L:List AffQ} (h:FormsAt w a L) (hg:AllB isZF w g):FormsAt (w.setCell ⟨g,o,none⟩ u) a L:=by
 refine ⟨h.len,?_⟩
 rcases h.row with rfl | ⟨b,off,rfl,hb,hc⟩
 ·exact .inl rfl
 ·by_cases hl:L=[]
  ·exact .inl hl
  ·have hp:=List.length_pos_iff.2 hl;obtain ⟨p0,p1,p2,p3,h0,h1,_,_,_,h4⟩:=hc 0 L[0] (List.getElem?_eq_getElem hp);obtain ⟨_,_,_,_,rfl,_⟩:=h4.ex;have hf:b ≠ g:=fun e=>by subst e;exact hg.zfb h1
   refine .inr ⟨b,off,rfl,by simpa using hb,fun j x hj=>?_⟩
   obtain ⟨p0,p1,p2,p3,h0,h1,h2,h3,h4⟩:=hc j x hj;exact ⟨p0,p1,p2,p3,(cell_other (by exact hf)).trans h0,(cell_other (by exact hf)).trans h1,(cell_other (by exact hf)).trans h2,(cell_other (by exact hf)).trans h3,h4.setZ hg⟩
theorem FRow.setZ {w:World} {gG g o:Nat} {u:Value} {a:Option Addr} {L:List AffQ} (h:FRow gG w a L) (hg:AllB isZF w g) (hne:g ≠ gG):FRow gG (w.setCell ⟨g,o,none⟩ u) a L:=
 ⟨forms_setZ h.at' hg,h.fr.imp id fun hf p e=>(hf p e).set hne⟩
theorem LSt.setZ {gG n b o:Nat} {U:List AffQ} {w:World} {u:Value} (h:LSt w gG n U) (hf:Fre gG w b) (hb:AllB isZF w b):LSt (w.setCell ⟨b,o,none⟩ u) gG n U:=by
 have hne:gG ≠ b:=fun e=>hf.ne e.symm
 obtain ⟨g0,⟨a,c,h1,ho⟩,g2,g3,fz,lt⟩:=h;have k:∀ q,(w.setCell ⟨b,o,none⟩ u).cell? ⟨gG,q,none⟩=w.cell? ⟨gG,q,none⟩:=fun q=>cell_other (by exact hne)
 have hub:∀ g,(Value.slice a U.length c).ownBlock=some g->g ≠ b:=fun g e e2=>hf.nu (by unfold ub;rw [h1];subst e2;exact e)
 refine ⟨(k 0).trans g0,⟨a,c,(k 1).trans h1,⟨?_,?_⟩⟩,(k 2).trans g2,fun q hq=>(k q).trans (g3 q hq),fun q=>by simp only [World.frozen?_setCell];exact fz q,by simpa using lt⟩
 ·obtain ⟨xs,hx,he⟩:=ho.ex
  refine ⟨xs,⟨hx.1,?_⟩,fun j x hj=>?_⟩
  ·rcases hx.2 with k | ⟨g,cap,cur,e1,k1,k2,k3⟩
   ·exact .inl k
   ·exact .inr ⟨g,cap,cur,e1,k1,(Below.heap_setCell _ _ _ _ (hub g (by rw [e1];rfl))).trans k2,k3⟩
  ·obtain ⟨p0,p1,p2,p3,h0,h1',h2,h3,h4⟩:=he j x hj;exact ⟨p0,p1,p2,p3,h0,h1',h2,h3,h4.setZ hb⟩
 ·intro g e q x hx;rw [cell_other (by exact hub g e)] at hx;exact ho.al g e q x hx
structure OwnFF (gG:Nat) (w:World) (base:Nat) (v:Value) (Y:List (List AffQ)):Prop where
 ex:∃ xs,w.ownsRow base 28 1 v Y.length xs/\∀ (j:Nat) (y:List AffQ),Y[j]? =some y->∃ (a:Option Addr) (c:Nat),xs[j]? =some (.slice a y.length c)/\y.length<=c/\FRow gG w a y
 al:AllO isS w v
 fr:∀ b,v.ownBlock=some b->Fre gG w b
theorem OwnFF.lt {gG:Nat} {w:World} {base:Nat} {v:Value} {Y:List (List AffQ)} (h:OwnFF gG w base v Y) {k:Nat} (hk:v.ownBlock=some k):base<=k/\k < w.heap.size:=by
 obtain ⟨xs,ho,_⟩:=h.ex;exact ho.lt k hk
theorem OwnFF.nil (gG:Nat) (w:World) (base:Nat):OwnFF gG w base (.slice none 0 0) []:=⟨⟨[],World.ownsRow_nil _ _ _ _,by simp⟩,(by intro g h;cases h),fun b e=>by cases e⟩
theorem OwnFF.stp {gG n:Nat} {w w':World} {base:Nat} {v:Value} {Y:List (List AffQ)} {U:List AffQ} (h:OwnFF gG w base v Y) (hL:LSt w gG n U) (hs:Stp gG w w'):OwnFF gG w' base v Y:=by
 refine ⟨?_,fun g e o x hx=>?_,fun b e=>(h.fr b e).stp hs⟩
 ·obtain ⟨xs,ho,he⟩:=h.ex
  refine ⟨xs,⟨ho.1,?_⟩,fun j y hj=>?_⟩
  ·rcases ho.2 with k | ⟨g,cap,cur,rfl,k1,k2,k3⟩
   ·exact .inl k
   ·exact .inr ⟨g,cap,cur,rfl,k1,((h.fr g rfl).block hs).trans k2,k3⟩
  ·obtain ⟨a,c,k1,k2,k3⟩:=he j y hj;exact ⟨a,c,k1,k2,k3.stp hL hs⟩
 ·rw [(h.fr g e).cell hs] at hx;exact h.al g e o x hx
theorem OwnFF.setZ {gG g o:Nat} {w:World} {base:Nat} {v:Value} {Y:List (List AffQ)} {u:Value} (h:OwnFF gG w base v Y) (hg:AllB isZF w g) (hne:g ≠ gG) (hb:g < base):OwnFF gG (w.setCell ⟨g,o,none⟩ u) base v Y:=by
 have hbk:∀ b,v.ownBlock=some b->b ≠ g:=fun b e=>by have:=(h.lt e).1;omega
 refine ⟨?_,fun b e q x hx=>?_,fun b e=>(h.fr b e).set hne⟩
 ·obtain ⟨xs,ho,he⟩:=h.ex
  refine ⟨xs,⟨ho.1,?_⟩,fun j y hj=>?_⟩
  ·rcases ho.2 with k | ⟨b,cap,cur,rfl,k1,k2,k3⟩
   ·exact .inl k
   ·exact .inr ⟨b,cap,cur,rfl,k1,(Below.heap_setCell _ _ _ _ (show b ≠ g from hbk b rfl)).trans k2,k3⟩
  ·obtain ⟨a,c,k1,k2,k3⟩:=he j y hj;exact ⟨a,c,k1,k2,k3.setZ hg hne⟩
 ·rw [cell_other (by exact hbk b e)] at hx;exact h.al b e q x hx
theorem forms_grownS {w w':World} {a:Option Addr} {L:List AffQ} {v:Value} (h:FormsAt w a L) (hg:w.grownBy w' v.ownBlock) (ha:AllO isS w v):FormsAt w' a L:=by
 have hbs:AllO isBS w v:=fun g e o x hx=>by
  have:=ha g e o x hx;unfold isS at this
  split at this
  ·rfl
  ·cases this
 refine ⟨h.len,?_⟩
 rcases h.row with rfl | ⟨b,off,rfl,hb,hc⟩
 ·exact .inl rfl
 ·by_cases hl:L=[]
  ·exact .inl hl
  ·have hp:=List.length_pos_iff.2 hl;obtain ⟨p0,p1,p2,p3,h0,h1,_,_,_,h4⟩:=hc 0 L[0] (List.getElem?_eq_getElem hp);obtain ⟨_,_,_,_,rfl,_⟩:=h4.ex;have hne:some b ≠ v.ownBlock:=fun e=>by have:=ha b e.symm _ _ h1;cases this
   have hcell:∀ o,w'.cell? ⟨b,o,none⟩=w.cell? ⟨b,o,none⟩:=fun o=>World.cell?_of_block (hg.block b hb hne)
   refine .inr ⟨b,off,rfl,Nat.lt_of_lt_of_le hb hg.size,fun j x hj=>?_⟩
   obtain ⟨p0,p1,p2,p3,h0,h1,h2,h3,h4⟩:=hc j x hj;exact ⟨p0,p1,p2,p3,(hcell _).trans h0,(hcell _).trans h1,(hcell _).trans h2,(hcell _).trans h3,formK.grown h4 hg hbs⟩
theorem AllO.sbs {w:World} {v:Value} (ha:AllO isS w v):AllO isBS w v:=fun g e o x hx=>by
 have:=ha g e o x hx;unfold isS at this
 split at this
 ·rfl
 ·cases this
theorem FRow.grownS {gG n:Nat} {w w':World} {a:Option Addr} {L U:List AffQ} {v:Value} (h:FRow gG w a L) (hL:LSt w gG n U) (hg:w.grownBy w' v.ownBlock) (hf:∀ b,v.ownBlock=some b->Fre gG w b) (ha:AllO isS w v):FRow gG w' a L:=by
 obtain ⟨e,_⟩:=ub_grown hL hg hf;exact ⟨forms_grownS h.at' hg ha,h.fr.imp id fun hf' p hp=>⟨Nat.lt_of_lt_of_le (hf' p hp).lt hg.size,(hf' p hp).ne,by rw [e];exact (hf' p hp).nu⟩⟩
theorem Fre.grown {gG n b:Nat} {w w':World} {U:List AffQ} {v:Value} (h:Fre gG w b) (hL:LSt w gG n U) (hg:w.grownBy w' v.ownBlock) (hf:∀ b,v.ownBlock=some b->Fre gG w b):Fre gG w' b:=by
 obtain ⟨e,_⟩:=ub_grown hL hg hf;exact ⟨Nat.lt_of_lt_of_le h.lt hg.size,h.ne,by rw [e];exact h.nu⟩
theorem wpList_appFF {P:Program} {w:World} {ops:Array Oper} {rest:List Oper} {o:Oper} {a:Act} {Q:Exit->Act->World->Prop} (hgd:o.guard=none) (s x:Operand) (t:TypeId)
  (ho:o.op=.call { callee:=.builtin .append,args:=#[s,x],argTypes:=#[t,t] })
  (gG nn base:Nat) (ht:P.underlying t=some (.slice 28)) (hinfo:(P.info? 28).map (fun i=>(i.zero,i.size,i.bytes))=some (some (.slice none 0 0),1,24))
  (v:Value) (n:Nat) (Y:List (List AffQ)) (U:List AffQ) (hn:Y.length=n) (hs:a.eval s=v) (hown:OwnFF gG w base v Y) (hL:LSt w gG nn U) (y:List AffQ) (m:Nat) (hm:y.length=m) (aj:Option Addr) (cj:Nat) (hcj:m<=cj) (hy:FRow gG w aj y)
  (g:Nat) (hg1:w.cell? ⟨g,0,none⟩=some (.slice aj m cj))
  (hx:a.eval x=.slice (some ⟨g,0,none⟩) 1 1) (hL':n+1<=2000000000000) (hbase:base<=w.heap.size)
  (h:∀ b k w',OwnFF gG w' base (.slice b (n+1) k) (Y++[y])->n+1<=k->w.grownBy w' v.ownBlock->wpList P ops Q rest (a.put o.dst (.slice b (n+1) k)) w'):
  wpList P ops Q (o::rest) a w:=by
 subst hn hm
 refine wpList_plain hgd fun K hK=>?_
 obtain ⟨i,hi,hz,hsize,hby⟩:=info_parts hinfo;obtain ⟨xs,hox,he⟩:=hown.ex;have hcells:∀ (j:Nat) (u:Value),[Value.slice aj y.length cj][j]? =some u->w.cell? (Addr.add ⟨g,0,none⟩ j)=some u:=by
  intro j u hj;rw [Addr.add_lit]
  match j,hj with
  | 0,hj=>rw [<- hj];exact hg1
 obtain ⟨v',w',hr,r2,r3,r4,r5⟩:=run_append_all (P:=P) isS w base t o.type _ i _ 1 24 ht hi hz hsize hby (by simp [Value.cells]) (by omega) v Y.length xs hox ⟨g,0,none⟩ 1 1
  [.slice aj y.length cj] rfl hcells (by intro u hu;simp at hu;subst hu;rfl) (by omega) (by unfold maxLen;omega) (by omega) hbase
  hown.al (by intro u hu;simp at hu;subst hu;rfl) (by intro u hu;simp [Value.cells] at hu;subst hu;rfl)
 obtain ⟨eu,_⟩:=ub_grown hL r3 hown.fr;have hO:OwnFF gG w' base v' (Y++[y]):=by
  refine ⟨⟨_,by simpa using r2,fun j z hj=>?_⟩,r5,fun b hb=>?_⟩
  ·by_cases hlt:j < Y.length
   ·rw [List.getElem?_append_left hlt] at hj;obtain ⟨bj,dj,q1,q2,q3⟩:=he j z hj;exact ⟨bj,dj,by rw [List.getElem?_append_left (by rw [hox.1];omega)];exact q1,q2,q3.grownS hL r3 hown.fr hown.al⟩
   ·have hlt':=(List.getElem?_eq_some_iff.1 hj).1;simp only [List.length_append,List.length_cons,List.length_nil] at hlt';obtain rfl:j=Y.length:=by omega
    have e2:z=y:=by simpa using hj.symm
    subst e2;exact ⟨aj,cj,by rw [List.getElem?_append_right (by rw [hox.1];omega)];simp [hox.1],hcj,hy.grownS hL r3 hown.fr hown.al⟩
  ·rcases r4 with e2 | ⟨g',e2,hge⟩
   ·have hf:=hown.fr b (e2.symm.trans hb);exact hf.grown hL r3 hown.fr
   ·rw [e2] at hb;cases hb;have hlt:=r2.lt _ e2
    refine ⟨hlt.2,by have:=hL.lt;omega,fun e3=>?_⟩
    rw [eu] at e3;have:=hL.ub_ge e3;omega
 obtain ⟨b,k,e,hk⟩:=own_form1c r2;subst e;unfold Oper.wp execOp;simp only [ho,resolve,invoke,builtin,Sem.run_bind,Sem.run_pure,Result.andThen_ok,List.map_toArray,List.map_cons,List.map_nil,hs,hx,hr];exact hK _ _ (h b k w' hO hk r3)
def LowV.cells (s:LowV):Array Value:=#[.int .i64 s.kd,.int .i64 s.fr,.int .i64 s.ot,.int .i64 s.kh,.int .i64 s.kw,.int .i64 s.st,.int .i64 s.pd,.slice s.a1 s.n1 s.c1,.slice s.a2 s.n2 s.c2,.slice s.aS s.nS s.cS,.slice s.ax s.nx s.cx,.slice s.aT s.nT s.cT,s.fu]
def LowV.fn (s:LowV) (i:Nat):Value:=s.cells.getD i undef
theorem LoBox.fn {W:World} {g:Nat} {s:LowV} (h:BoxF W g 13 s.fn):LoBox W g s:=
 ⟨h.c 0 (by omega),h.c 1 (by omega),h.c 2 (by omega),h.c 3 (by omega),h.c 4 (by omega),h.c 5 (by omega),h.c 6 (by omega),h.c 7 (by omega),h.c 8 (by omega),h.c 9 (by omega),h.c 10 (by omega),h.c 11 (by omega),h.c 12 (by omega),h.free,h.lt⟩
def LowV.lay (s:LowV) (l:LayL) (b1:Option Addr) (d1:Nat) (b2:Option Addr) (d2:Nat):LowV:=
 { s with kd:=l.kind,fr:=l.frm,ot:=l.out,kh:=l.kh,kw:=l.kw,st:=l.stride,pd:=l.pad,a1:=b1,n1:=l.weights.length,c1:=d1,a2:=b2,n2:=l.bias.length,c2:=d2 }
def LowV.nums (s:LowV) (a:Option Addr) (n c:Nat):LowV:={ s with ax:=a,nx:=n,cx:=c }
def LowV.shap (s:LowV) (a:Option Addr) (n c:Nat):LowV:={ s with aS:=a,nS:=n,cS:=c }
def LowV.trc (s:LowV) (a:Option Addr) (n c:Nat):LowV:={ s with aT:=a,nT:=n,cT:=c }
def LowV.fnc (s:LowV) (v:Value):LowV:={ s with fu:=v }
structure LwB (w1:World) (gG gL n:Nat) (wr:World) (f:Nat->Value) (U:List AffQ) (tr:Value) (Y:List (List AffQ)) (ax:Option Addr) (X:List AffQ):Prop where
 box:BoxF wr gL 13 f
 ai:AllB isZF wr gL
 fre:Fre gG wr gL
 un:LSt wr gG n U
 own:OwnFF gG wr (gL+1) tr Y
 cur:FRow gG wr ax X
 bl:Below gG w1 wr
 lt:gG < gL
section
variable {w1:World} {gG gL n:Nat} {wr w':World} {f f':Nat->Value} {U U':List AffQ} {tr tr':Value} {Y Y':List (List AffQ)} {ax ax':Option Addr} {X X':List AffQ}
theorem LwB.set (h:LwB w1 gG gL n wr f U tr Y ax X) {i:Nat} (hi:i < 13) {u:Value} (hu:isZF u=true):LwB w1 gG gL n (wr.setCell ⟨gL,i,none⟩ u) (updF f i u) U tr Y ax X:=
 ⟨h.box.set hi u,h.ai.set i hu,h.fre.set h.fre.ne,h.un.setZ h.fre h.ai,h.own.setZ h.ai h.fre.ne (Nat.lt_succ_self _),h.cur.setZ h.ai h.fre.ne,h.bl.setCell (p:=⟨gL,i,none⟩) (Nat.le_of_lt h.lt) u,h.lt⟩
theorem LwB.stp (h:LwB w1 gG gL n wr f U tr Y ax X) (hs:Stp gG wr w') (hU:LSt w' gG n U'):LwB w1 gG gL n w' f U' tr Y ax X:=
 ⟨⟨fun i hi=>(h.fre.cell hs).trans (h.box.c i hi),fun i=>(h.fre.frozen hs).trans (h.box.free i),Nat.lt_of_lt_of_le h.box.lt hs.size⟩,fun o x e=>h.ai o x (by rw [h.fre.cell hs] at e;exact e),h.fre.stp hs,hU,h.own.stp h.un hs,h.cur.stp h.un hs,h.bl.trans (hs.below h.un),h.lt⟩
theorem LwB.below (h:LwB w1 gG gL n wr f U tr Y ax X) (hb:Below wr.heap.size wr w'):LwB w1 gG gL n w' f U tr Y ax X:=h.stp (Stp.of hb h.un.lt) (h.un.below hb)
theorem LwB.congr (h:LwB w1 gG gL n wr f U tr Y ax X) (e:∀ i,i < 13->f i=f' i):LwB w1 gG gL n wr f' U tr Y ax X:=⟨h.box.congr e,h.ai,h.fre,h.un,h.own,h.cur,h.bl,h.lt⟩
theorem LwB.cur' (h:LwB w1 gG gL n wr f U tr Y ax X) (hc:FRow gG wr ax' X'):LwB w1 gG gL n wr f U tr Y ax' X':=⟨h.box,h.ai,h.fre,h.un,h.own,hc,h.bl,h.lt⟩
theorem LwB.own' (h:LwB w1 gG gL n wr f U tr Y ax X) (hc:OwnFF gG wr (gL+1) tr' Y'):LwB w1 gG gL n wr f U tr' Y' ax X:=⟨h.box,h.ai,h.fre,h.un,hc,h.cur,h.bl,h.lt⟩
theorem LwB.app (h:LwB w1 gG gL n wr f U tr Y ax X) (ho:OwnFF gG w' (gL+1) tr' Y') (hg:wr.grownBy w' tr.ownBlock):LwB w1 gG gL n w' f U tr' Y' ax X:=by
 have hne:some gL ≠ tr.ownBlock:=fun e=>by have:=(h.own.lt e.symm).1;omega
 have hb:w'.heap[gL]? =wr.heap[gL]? :=hg.block gL h.box.lt hne;have hc:∀ o,w'.cell? ⟨gL,o,none⟩=wr.cell? ⟨gL,o,none⟩:=fun o=>World.cell?_of_block hb
 refine ⟨⟨fun i hi=>(hc i).trans (h.box.c i hi),fun i=>(World.frozen?_of_block hb).trans (h.box.free i),Nat.lt_of_lt_of_le h.box.lt hg.size⟩,fun o x e=>h.ai o x (by rw [hc] at e;exact e),h.fre.grown h.un hg h.own.fr,h.un.grown hg h.own.fr h.own.al.sbs,ho,h.cur.grownS h.un hg h.own.fr h.own.al,?_,h.lt⟩
 exact h.bl.grown hg (Nat.le_of_lt h.un.lt) (fun k hk=>by have:=(h.own.lt hk).1;have:=h.lt;omega)
theorem LwB.lay {s:LowV} (h:LwB w1 gG gL n wr s.fn U tr Y ax X) (l:LayL) (b1:Option Addr) (d1:Nat) (b2:Option Addr) (d2:Nat):
  LwB w1 gG gL n (((((((((wr.setCell ⟨gL,0,none⟩ (.int .i64 l.kind)).setCell ⟨gL,1,none⟩ (.int .i64 l.frm)).setCell ⟨gL,2,none⟩ (.int .i64 l.out)).setCell ⟨gL,3,none⟩ (.int .i64 l.kh)).setCell ⟨gL,4,none⟩ (.int .i64 l.kw)).setCell ⟨gL,5,none⟩ (.int .i64 l.stride)).setCell ⟨gL,6,none⟩ (.int .i64 l.pad)).setCell ⟨gL,7,none⟩ (.slice b1 l.weights.length d1)).setCell ⟨gL,8,none⟩ (.slice b2 l.bias.length d2))
   (s.lay l b1 d1 b2 d2).fn U tr Y ax X:=by
 refine (((((((((h.set (i:=0) (by omega) rfl).set (i:=1) (by omega) rfl).set (i:=2) (by omega) rfl).set (i:=3) (by omega) rfl).set (i:=4) (by omega) rfl).set (i:=5) (by omega) rfl).set (i:=6) (by omega) rfl).set (i:=7) (by omega) rfl).set (i:=8) (by omega) rfl).congr ?_
 exact all13 rfl rfl rfl rfl rfl rfl rfl rfl rfl rfl rfl rfl rfl
theorem LwB.nums {s:LowV} (h:LwB w1 gG gL n wr s.fn U tr Y ax X) (a:Option Addr) (k c:Nat):LwB w1 gG gL n (wr.setCell ⟨gL,10,none⟩ (.slice a k c)) (s.nums a k c).fn U tr Y ax X:=
 (h.set (i:=10) (by omega) rfl).congr (all13 rfl rfl rfl rfl rfl rfl rfl rfl rfl rfl rfl rfl rfl)
theorem LwB.shap {s:LowV} (h:LwB w1 gG gL n wr s.fn U tr Y ax X) (a:Option Addr) (k c:Nat):LwB w1 gG gL n (wr.setCell ⟨gL,9,none⟩ (.slice a k c)) (s.shap a k c).fn U tr Y ax X:=
 (h.set (i:=9) (by omega) rfl).congr (all13 rfl rfl rfl rfl rfl rfl rfl rfl rfl rfl rfl rfl rfl)
theorem LwB.trc {s:LowV} (h:LwB w1 gG gL n wr s.fn U tr Y ax X) (a:Option Addr) (k c:Nat):LwB w1 gG gL n (wr.setCell ⟨gL,11,none⟩ (.slice a k c)) (s.trc a k c).fn U tr Y ax X:=
 (h.set (i:=11) (by omega) rfl).congr (all13 rfl rfl rfl rfl rfl rfl rfl rfl rfl rfl rfl rfl rfl)
theorem LwB.fnc {s:LowV} (h:LwB w1 gG gL n wr s.fn U tr Y ax X) {v:Value} (hv:isZF v=true):LwB w1 gG gL n (wr.setCell ⟨gL,12,none⟩ v) (s.fnc v).fn U tr Y ax X:=
 (h.set (i:=12) (by omega) hv).congr (all13 rfl rfl rfl rfl rfl rfl rfl rfl rfl rfl rfl rfl rfl)
end
theorem LSt.make (w1:World) (n:Nat) (T:Nat):LSt (w1.alloc (.cells #[.int .i64 (n:Int),.slice none 0 0,.slice none 0 0] T)) w1.heap.size n []:=by
 refine ⟨?_,⟨none,0,?_,Own4.nil _ _⟩,?_,fun o ho=>?_,fun o=>World.frozen?_alloc_new _ _ _ _,by simp⟩
 ·rw [World.cell?_alloc_at _ _ _ _ rfl];rfl
 ·rw [World.cell?_alloc_at _ _ _ _ rfl];rfl
 ·rw [World.cell?_alloc_at _ _ _ _ rfl];rfl
 ·rw [World.cell?_alloc_at _ _ _ _ rfl];exact Array.getElem?_eq_none (by simpa using ho)
theorem LwB.make {w1 W:World} {gG n:Nat} (hL:LSt W gG n []) (hb:Below gG w1 W) (s:LowV) (hs:isZF s.fu=true) (T:Nat) (X:List AffQ) (hX:FRow gG W s.ax X):LwB w1 gG W.heap.size n (W.alloc (.cells s.cells T)) s.fn [] (.slice none 0 0) [] s.ax X:=by
 have hal:=blA W (.cells s.cells T);have hc:∀ o,(W.alloc (.cells s.cells T)).cell? ⟨W.heap.size,o,none⟩=s.cells[o]? :=fun o=>World.cell?_alloc_at _ _ _ _ rfl
 have hfr:=hL.fresh hal (Nat.le_refl _) (by simp)
 refine ⟨⟨all13 (hc 0) (hc 1) (hc 2) (hc 3) (hc 4) (hc 5) (hc 6) (hc 7) (hc 8) (hc 9) (hc 10) (hc 11) (hc 12),fun o=>World.frozen?_alloc_new _ _ _ _,by simp⟩,AllB.of_heap (heap_alloc_new W _) ?_,hfr,hL.below hal,OwnFF.nil _ _ _,hX.stp hL (Stp.of hal hL.lt),hb.trans (hal.mono (Nat.le_of_lt hL.lt)),hL.lt⟩
 intro u hu;simp [LowV.cells] at hu
 rcases hu with rfl | rfl | rfl | rfl | rfl | rfl | rfl | rfl | rfl | rfl | rfl | rfl | rfl <;> first | rfl | exact hs
structure GraphV (w:World) (v:Value) (G:GraphQ):Prop where
 ex:∃ aU cU aO cO,v=.agg #[.int .i64 (G.inputs:Int),.slice aU G.units.length cU,.slice aO G.outs.length cO]/\G.units.length<=cU/\G.outs.length<=cO/\FormsAt w aU G.units/\FormsAt w aO G.outs
def LowPost (w:World) (R:GraphQ × Int) (e:Ending) (w':World):Prop:=∃ v,e=.returned (.tuple #[v,.int .i64 R.2])/\GraphV w' v R.1/\Below w.heap.size w w'
theorem graph_zero (w:World):GraphV w (.agg #[.int .i64 0,.slice none 0 0,.slice none 0 0]) emptyG:=⟨none,0,none,0,rfl,Nat.le_refl _,Nat.le_refl _,Row4.nil _ _,Row4.nil _ _⟩
end Go.Proofs.YtfgmmghmmfmdgaaGreat
