/-
  Contracts of the functions that the statement reaches: ModJ, ModK, ModL, ModM.
-/
import Derived.Test.YtfgmmghmmfmdgaaGreatK27
import Derived.Test.YtfgmmghmmfmdgaaGreatK28
set_option linter.all false
set_option maxRecDepth 100000
set_option maxHeartbeats 3200000
namespace Go.Proofs.YtfgmmghmmfmdgaaGreat
open Go.RowKit
open Go.Lib (hid)
theorem winsL_bd (s:List Int) (l:LayL):(0<=(winsL s l).1/\(winsL s l).1<=16600)/\(0<=(winsL s l).2.1/\(winsL s l).2.1<=16600):=by
 unfold winsL
 cases h:argBad s l.kh l.kw l.stride l.pad with
 | true=>rw [windowsL_arg h];simp
 | false=>
  cases h2:shapeBad s l.kh l.kw l.pad with
  | true=>rw [windowsL_shape h h2];simp
  | false=>
   by_cases h3:262144 < (winOf s l.kh l.kw l.stride l.pad).total
   ·rw [windowsL_many h h2 h3];simp
   ·rw [windowsL_ok h h2 h3];obtain ⟨q,hq,e,_⟩:=winOf_ok h h2;rw [e];have:=hq.r2;have:=hq.q2;simp only;omega
theorem ints3_alloc (w:World) (x y z:Int) (T:Nat) (hx:I64 x) (hy:I64 y) (hz:I64 z):Ints (w.alloc (.cells #[.int .i64 x,.int .i64 y,.int .i64 z] T)) Any (some ⟨w.heap.size,0,none⟩) [x,y,z]:=by
 refine ⟨?_,by simp,.inr ⟨w.heap.size,0,rfl,trivial,by simp,fun j d hj=>?_⟩⟩
 ·intro u hu;simp at hu
  rcases hu with rfl | rfl | rfl <;> assumption
 ·rw [Nat.zero_add,World.cell?_alloc_at _ _ _ _ rfl]
  match j,hj with
  | 0,hj=>simp at hj;subst hj;rfl
  | 1,hj=>simp at hj;subst hj;rfl
  | 2,hj=>simp at hj;subst hj;rfl
theorem S9W_keep {W w1:World} {g p:Nat} {p0 p1 p2 p3 p4 p5 p6 p7 p8 q0 q1:Value} (hg:Box9 W g p0 p1 p2 p3 p4 p5 p6 p7 p8) (hh:Box2 W p q0 q1) (hb:Below W.heap.size W w1):
  w1.cell? ⟨p,0,none⟩=some q0/\w1.cell? ⟨p,1,none⟩=some q1/\w1.cell? ⟨g,3,none⟩=some p3/\w1.cell? ⟨g,4,none⟩=some p4/\w1.cell? ⟨g,5,none⟩=some p5/\w1.cell? ⟨g,6,none⟩=some p6:=
 ⟨(hb.cell hh.lt).trans hh.c0,(hb.cell hh.lt).trans hh.c1,(hb.cell hg.lt).trans hg.c3,(hb.cell hg.lt).trans hg.c4,(hb.cell hg.lt).trans hg.c5,(hb.cell hg.lt).trans hg.c6⟩
theorem pWindows {w:World} {v u:Value} {input:List Int} {S:List (List Int)} {l:LayL} (hv:PlaceV w v input S) (hu:LayV w u l) (ch:Int) (hch:I64 ch):
  Calls Tryz.prog 125 #[v,u,.int .i64 ch] w fun e w'=>(∃ g,e=.returned (.tuple #[.slice (some ⟨g,0,none⟩) 3 3,.bool (decide ((winsL (currL input S) l).2.2=0))])/\Ints w' Any (some ⟨g,0,none⟩) [ch,(winsL (currL input S) l).1,(winsL (currL input S) l).2.1])/\Below w.heap.size w w':=by
 obtain ⟨ai,ci,hin,hcall⟩:=pIn hv;obtain ⟨a,b,c,d,rfl,h1,h2⟩:=hv.ex;obtain ⟨b1,b2,d1,d2,rfl,r1,r2⟩:=hu.ex;have q1:=h1.len;have q2:=h2.len;have q3:=r1.len;have q4:=r2.len;obtain ⟨HIn,HCall⟩:=hd2 hin hcall;have hbd:=winsL_bd (currL input S) l;have hwin:Hid (∀ (W w':World),Below w.heap.size w W->Below W.heap.size W w'->Calls Tryz.prog 131 #[.slice ai (currL input S).length ci,.int .i64 l.kh,.int .i64 l.kw,.int .i64 l.stride,.int .i64 l.pad] w' fun e w''=>
   (∃ x y z,e=.returned (.tuple #[.slice x y z,.int .i64 (winsL (currL input S) l).1,.int .i64 (winsL (currL input S) l).2.1,.int .i64 (winsL (currL input S) l).2.2]))/\Below W.heap.size W w''):=by
  intro W w' hW hb
  refine (tWin ci l.kh l.kw l.stride l.pad (HIn.out.below (hW.trans (hb.mono hW.size)))).mono ?_
  rintro e w'' ⟨x,z,rfl,_,p⟩;exact ⟨⟨x,_,z,rfl⟩,hb.trans (p.mono hb.size)⟩
 generalize winsL (currL input S) l=Z at *;obtain ⟨z1,z2,z3⟩:=Z;simp only at hbd ⊢;obtain ⟨⟨y1,y2⟩,y3,y4⟩:=hbd;have HI3:Hid (∀ W:World,Ints (W.alloc (.cells #[.int .i64 ch,.int .i64 z1,.int .i64 z2] 3)) Any (some ⟨W.heap.size,0,none⟩) [ch,z1,z2]):=fun W=>ints3_alloc W ch z1 z2 _ hch ⟨by omega,by omega⟩ ⟨by omega,by omega⟩
 generalize hR:decide (z3=0)=R;have hR2:(z3==0)=R:=hR;clear hv hu h1 h2 r1 r2 hin hcall hch hR y1 y2 y3 y4
 go_enter Tryz.func125,Tryz.ntmps125
 go_upto_region 1 with fail
 have hT:=PBox.mk' w (.slice a input.length c) (.slice b S.length d) (.int .i64 l.kind) (.int .i64 l.frm) (.int .i64 l.out) (.int .i64 l.kh) (.int .i64 l.kw) (.int .i64 l.stride) (.int .i64 l.pad) (.slice b1 l.weights.length d1) (.slice b2 l.bias.length d2) 122 44;generalize (w.alloc (.cells #[.slice a input.length c,.slice b S.length d] 122)).alloc (layO l b1 d1 b2 d2 44)=W at *;have HT:=hid hT;have xbl:Below W.heap.size W W.drew:=(Below.refl _ _).drew;have HC2:Hid (∀ w',Below W.heap.size W w'->Calls Tryz.prog 126 #[.agg #[.slice a input.length c,.slice b S.length d]] w' fun e w''=>e=.returned (.slice ai (currL input S).length ci)/\Below W.heap.size W w''):=
  fun w' hb=>(HCall.out w' (HT.out.bl.trans (hb.mono (by have:=HT.out.b.lt;omega)))).mono fun e w'' ⟨h1,h2⟩=>⟨h1,hb.trans (h2.mono hb.size)⟩
 have HW2:=hid (hwin.out W · hT.bl);clear hT HCall hwin HIn
 go_region_held3 (fun w'=>w'.cell? ⟨w.heap.size,0,none⟩=some (.slice a input.length c)/\w'.cell? ⟨w.heap.size,1,none⟩=some (.slice b S.length d)/\w'.cell? ⟨w.heap.size+1,3,none⟩=some (.int .i64 l.kh)/\w'.cell? ⟨w.heap.size+1,4,none⟩=some (.int .i64 l.kw)/\w'.cell? ⟨w.heap.size+1,5,none⟩=some (.int .i64 l.stride)/\w'.cell? ⟨w.heap.size+1,6,none⟩=some (.int .i64 l.pad))
  (first | exact S9W_keep HT.out.b HT.out.a (by assumption))
  (first
   | (go_at_call 126; refine (HC2.out _ ?hb).mono ?_
      case hb=>assumption
      rintro e w1 ⟨rfl,p3⟩)
   | (go_at_call 131; refine (HW2.out _ ?hb2).mono ?_
      case hb2=>assumption
      rintro e w1 ⟨⟨x1,x2,x3,rfl⟩,p3⟩))
 all_goals
  have hbl:= ‹Below W.heap.size W w1›;have HE:=hid hbl;have hI:=HI3.out w1;have HI:=hid hI;clear hI hbl;go_wp2
  go_ret2
  exact ⟨⟨_,rfl,HI.out⟩,(HT.out.bl.trans (HE.out.mono (by have:=HT.out.b.lt;omega))).alloc (by have:=HT.out.b.lt;have:=HE.out.size;omega) _⟩
theorem conv_bd2 {a s b c:Int} (a1:1<=a) (a2:a<=16384) (s1:1<=s) (s2:s<=16384) (b1:1<=b) (b2:b<=64) (c1:1<=c) (c2:c<=64):(1<=a * s/\a * s<=268435456)/\(1<=a * s * b/\a * s * b<=17179869184)/\1<=a * s * b * c/\a * s * b * c<=1099511627776:=by
 have h1:=mul_bd11 a1 a2 s1 s2;have h3:1 * 1<=a * s * b:=Int.mul_le_mul h1.1 b1 (by omega) (by omega);have h4:a * s * b<=268435456 * 64:=Int.mul_le_mul h1.2 b2 (by omega) (by omega);have h5:1 * 1<=a * s * b * c:=Int.mul_le_mul (by omega) c1 (by omega) (by omega);have h6:a * s * b * c<=17179869184 * 64:=Int.mul_le_mul (by omega) c2 (by omega) (by omega);omega
theorem pConv {w:World} {v u:Value} {input:List Int} {S:List (List Int)} {l:LayL} (hv:PlaceV w v input S) (hu:LayV w u l) (ho1:1<=l.out) (ho2:l.out<=16384) (hk1:1<=l.kh) (hk2:l.kh<=64) (hk3:1<=l.kw) (hk4:l.kw<=64) (hc:validL (currL input S)=true):
  Calls Tryz.prog 124 #[v,u] w fun e w'=>(∃ a' c',e=.returned (.tuple #[.slice a' 3 c',.bool (decide ((winsL (currL input S) l).2.2=0) && decide ((l.weights.length:Int)=l.out * (currL input S).getD 0 0 * l.kh * l.kw))])/\Ints w' Any a' [l.out,(winsL (currL input S) l).1,(winsL (currL input S) l).2.1])/\Below w.heap.size w w':=by
 obtain ⟨HPV,HLV⟩:=hd2 hv hu;obtain ⟨ai,ci,hin,hcall⟩:=pIn hv;obtain ⟨a,b,c,d,rfl,h1,h2⟩:=hv.ex;obtain ⟨b1,b2,d1,d2,rfl,r1,r2⟩:=hu.ex;have q1:=h1.len;have q2:=h2.len;have q3:=r1.len;have q4:=r2.len;obtain ⟨HIn,HCall,HA1,HA2⟩:=hd4 hin hcall h1 h2;have hcal2:=HCall.out;have hlen:=(validL_len hc).1;obtain ⟨bs,os,s0,rfl,cs0,hx0,_,hbs,_,_,_⟩:=hin.pick2 (k:=0) (by omega);have hs0:(currL input S).getD 0 0=s0:=by rw [List.getD_eq_getElem?_getD,hx0];rfl
 obtain ⟨s1,s2⟩:1<=s0/\s0<=16384:=validL_mem hc _ (List.mem_of_getElem? hx0);obtain ⟨⟨m1,m2⟩,⟨m3,m4⟩,m5,m6⟩:=conv_bd2 ho1 ho2 s1 s2 hk1 hk2 hk3 hk4;rw [Nat.add_zero] at cs0;obtain ⟨HC0,HCl⟩:=hd2 cs0 hbs;rw [hs0];have hwin:=pWindows hv hu l.out ⟨by omega,by omega⟩;have HWin:=hid (fun W (hb:Below w.heap.size w W)=>pWindows (hv.below hb) (hu.below hb) l.out ⟨by omega,by omega⟩);generalize decide ((winsL (currL input S) l).2.2=0)=OK at *;generalize (winsL (currL input S) l).1=zR at *;generalize (winsL (currL input S) l).2.1=zC at *;generalize hR:(OK && decide ((l.weights.length:Int)=l.out * s0 * l.kh * l.kw))=RR;have HR:=hid hR;have hpos:0 < (currL input S).length:=hlen;generalize hcl:(currL input S).length=cl at *;clear hwin hx0 cs0 hs0 hbs hc hR hlen hcl;clear hv hu h1 h2 r1 r2 hin hcall
 go_enter Tryz.func124,Tryz.ntmps124
 go_upto_region 1 with fail
 have hT:=PBox.mk' w (.slice a input.length c) (.slice b S.length d) (.int .i64 l.kind) (.int .i64 l.frm) (.int .i64 l.out) (.int .i64 l.kh) (.int .i64 l.kw) (.int .i64 l.stride) (.int .i64 l.pad) (.slice b1 l.weights.length d1) (.slice b2 l.bias.length d2) 122 44;generalize (w.alloc (.cells #[.slice a input.length c,.slice b S.length d] 122)).alloc (layO l b1 d1 b2 d2 44)=W at *;have HT:=hid hT;have HB0:Hid (Below w.heap.size w W):=hT.bl;have HCe:=hid (fun w' (hb:Below W.heap.size W w')=>hcal2 w' (hT.bl.trans (hb.mono hT.bl.size)));clear hT hcal2;obtain ⟨x0,x1,xf,xlt⟩:=HT.out.a;obtain ⟨y0,y1,y2,y3,y4,y5,y6,y7,y8,ylt⟩:=HT.out.b
 go_wp2_with fail
 refine (HWin.out W HB0.out).mono ?_
 rintro e w1 ⟨⟨g,rfl,hI⟩,hb1⟩;obtain ⟨HI,HB1⟩:=hd2 hI hb1;have f0:=ext_cell ((hb1.cell (p:=⟨w.heap.size,0,none⟩) xlt).trans x0) (Nat.lt_of_lt_of_le xlt hb1.size);have f1:=ext_cell ((hb1.cell (p:=⟨w.heap.size,1,none⟩) xlt).trans x1) (Nat.lt_of_lt_of_le xlt hb1.size);have f2:=ext_cell ((hb1.cell (p:=⟨w.heap.size+1,2,none⟩) ylt).trans y2) (Nat.lt_of_lt_of_le ylt hb1.size);have f3:=ext_cell ((hb1.cell (p:=⟨w.heap.size+1,3,none⟩) ylt).trans y3) (Nat.lt_of_lt_of_le ylt hb1.size);have f4:=ext_cell ((hb1.cell (p:=⟨w.heap.size+1,4,none⟩) ylt).trans y4) (Nat.lt_of_lt_of_le ylt hb1.size);have f7:=ext_cell ((hb1.cell (p:=⟨w.heap.size+1,7,none⟩) ylt).trans y7) (Nat.lt_of_lt_of_le ylt hb1.size);have hbw:=HB0.out.trans (hb1.mono HB0.out.size);have fs:=ext_cell ((hbw.cell (p:=⟨bs,os,none⟩) HCl.out).trans HC0.out) (Nat.lt_of_lt_of_le HCl.out hbw.size);obtain ⟨HBw,HCx⟩:=hd2 hbw (fun e=>HCe.out (ext w1 e) (hb1.trans ((ext_below w1 e).mono hb1.size)));clear x0 x1 xf xlt y0 y1 y2 y3 y4 y5 y6 y7 y8 ylt hb1 hI hbw
 cases OK with
 | false=>
  have hRF:Hid (RR=false):=by unfold Hid;rw [<- HR.out];rfl
  clear HCx;go_wp2
  refine wp_region_quiet_ext (by kernel_rfl) (by kernel_rfl) ?_
  repeat (go_big_quiet_step (fail))
  refine wpQuiet_nil ?_
  intro _ hw';obtain ⟨nq,hw''⟩:=hw';subst hw'';obtain ⟨HBN,HIN⟩:=hd2 (HBw.out.trans ((ext_below w1 nq).mono HBw.out.size)) (HI.out.below (ext_below w1 nq));generalize ext w1 nq=w5 at *;go_wp2
  go_ret2
  rw [hRF.out];exact ⟨⟨_,_,rfl,HIN.out⟩,HBN.out⟩
 | true=>
  have hRT:Hid (RR=decide ((l.weights.length:Int)=l.out * s0 * l.kh * l.kw)):=by unfold Hid;rw [<- HR.out];rfl
  obtain ⟨p1,hp1⟩:∃ p1,l.out * s0=p1:=⟨_,rfl⟩
  obtain ⟨p2,hp2⟩:∃ p2,p1 * l.kh=p2:=⟨_,rfl⟩
  obtain ⟨p3,hp3⟩:∃ p3,p2 * l.kw=p3:=⟨_,rfl⟩
  rw [hp1] at m1 m2 m3 m4 m5 m6;rw [hp2] at m3 m4 m5 m6;rw [hp3] at m5 m6;have t1:IntKind.i64.wrap (l.out * s0)=p1:=by rw [hp1];exact IntWalk.i64_in _ (by omega)
  have t2:IntKind.i64.wrap (p1 * l.kh)=p2:=by rw [hp2];exact IntWalk.i64_in _ (by omega)
  have t3:IntKind.i64.wrap (p2 * l.kw)=p3:=by rw [hp3];exact IntWalk.i64_in _ (by omega)
  have hR3:((l.weights.length:Int)==p3)=RR:=by rw [hRT.out,hp1,hp2,hp3];rfl
  clear hp1 hp2 hp3 m1 m2 m3 m4 m5 m6;go_wp2
  refine wp_region_quiet_ext (by kernel_rfl) (by kernel_rfl) ?_
  repeat (go_big_quiet_step (first | (go_at_call 126;exact Calls.ext_of (HCx.out _))))
  refine wpQuiet_nil ?_
  intro _ hw';obtain ⟨nq,hw''⟩:=hw';subst hw'';obtain ⟨HBN,HIN⟩:=hd2 (HBw.out.trans ((ext_below w1 nq).mono HBw.out.size)) (HI.out.below (ext_below w1 nq));generalize ext w1 nq=w5 at *;go_wp2
  go_ret2
  exact ⟨⟨_,_,rfl,HIN.out⟩,HBN.out⟩
theorem pAdd {w:World} {v u:Value} {input:List Int} {S:List (List Int)} {l:LayL} (hv:PlaceV w v input S) (hu:LayV w u l) (hf2:l.frm < (S.length:Int)):
  Calls Tryz.prog 127 #[v,u] w fun e w'=>(∃ a' c',e=.returned (.tuple #[.slice a' (currL input S).length c',.bool (sameL (if 0<=l.frm then S.getD l.frm.toNat [] else input) (currL input S))])/\Ints w' Any a' (currL input S))/\Below w.heap.size w w':=by
 obtain ⟨HPV,HLV⟩:=hd2 hv hu;obtain ⟨ai,ci,hin,hcall⟩:=pIn hv;obtain ⟨a,b,c,d,rfl,h1,h2⟩:=hv.ex;obtain ⟨b1,b2,d1,d2,rfl,r1,r2⟩:=hu.ex;have q1:=h1.len;have q2:=h2.len;have q3:=r1.len;have q4:=r2.len;obtain ⟨HIn,HCall,HA1,HA2⟩:=hd4 hin hcall h1 h2;have hcal2:=HCall.out;generalize hR:sameL (if 0<=l.frm then S.getD l.frm.toNat [] else input) (currL input S)=RR;have HR:=hid hR;clear hR;clear hv hu h1 h2 r1 r2 hin hcall
 go_enter Tryz.func127,Tryz.ntmps127
 go_upto_region 1 with fail
 have hT:=PBox.mk' w (.slice a input.length c) (.slice b S.length d) (.int .i64 l.kind) (.int .i64 l.frm) (.int .i64 l.out) (.int .i64 l.kh) (.int .i64 l.kw) (.int .i64 l.stride) (.int .i64 l.pad) (.slice b1 l.weights.length d1) (.slice b2 l.bias.length d2) 122 44;generalize (w.alloc (.cells #[.slice a input.length c,.slice b S.length d] 122)).alloc (layO l b1 d1 b2 d2 44)=W at *;have HT:=hid hT;have HB0:Hid (Below w.heap.size w W):=hT.bl;have HCe:=hid (fun w' (hb:Below W.heap.size W w')=>hcal2 w' (hT.bl.trans (hb.mono hT.bl.size)));clear hT hcal2;obtain ⟨x0,x1,xf,xlt⟩:=HT.out.a;obtain ⟨y0,y1,y2,y3,y4,y5,y6,y7,y8,ylt⟩:=HT.out.b;clear y2 y3 y4 y5 y6 y7 y8 y0
 by_cases hf:0<=l.frm
 ·obtain ⟨k,hk⟩:∃ k:Nat,l.frm=(k:Int):=⟨l.frm.toNat,by omega⟩
  have hkl:k < S.length:=by omega
  obtain ⟨bb,off,o,aj,cj,rfl,hcell,hl,hcj,hI,hbb,_⟩:=(HA2.out.below HB0.out).pickc hkl;have HEq:=hid (fun W' (hb:Below W.heap.size W W')=>sEqual cj ci (hI.below hb) (HIn.out.below (HB0.out.trans (hb.mono HB0.out.size))));have hs:sameL o (currL input S)=RR:=by
   rw [<- HR.out,if_pos hf,hk,Int.toNat_natCast,List.getD_eq_getElem?_getD,hl];rfl
  rw [hs] at HEq;rw [hk] at y1;have qo:=hI.len;have f0:=ext_cell x0 xlt;have f1:=ext_cell x1 xlt;obtain ⟨HCx,HEx,HIw⟩:=hd3 (fun e=>HCe.out (ext W e) (ext_below W e)) (fun e=>HEq.out (ext W e) (ext_below W e)) (HIn.out.below HB0.out);clear hI hl hs HEq hk hf hf2 HR;go_wp2;clear x0 x1 xf xlt y1 ylt hcell
  refine wp_region_quiet_ext (by kernel_rfl) (by kernel_rfl) ?_
  repeat (go_big_quiet_step (first | (go_at_call 126;exact Calls.ext_of (HCx.out _)) | (go_at_call 152;exact Calls.ext_of (HEx.out _))))
  refine wpQuiet_nil ?_
  intro _ hw';obtain ⟨nq,hw''⟩:=hw';subst hw'';obtain ⟨HBN,HIN⟩:=hd2 (HB0.out.trans ((ext_below W nq).mono HB0.out.size)) (HIw.out.below (ext_below W nq));generalize ext W nq=w5 at *;go_wp2
  go_ret2
  exact ⟨⟨_,_,rfl,HIN.out⟩,HBN.out⟩
 ·have HEq:=hid (fun W' (hb:Below W.heap.size W W')=>sEqual c ci (HA1.out.below (HB0.out.trans (hb.mono HB0.out.size))) (HIn.out.below (HB0.out.trans (hb.mono HB0.out.size))));have hs:sameL input (currL input S)=RR:=by rw [<- HR.out,if_neg hf]
  rw [hs] at HEq;have f0:=ext_cell x0 xlt;have f1:=ext_cell x1 xlt;obtain ⟨HCx,HEx,HIw⟩:=hd3 (fun e=>HCe.out (ext W e) (ext_below W e)) (fun e=>HEq.out (ext W e) (ext_below W e)) (HIn.out.below HB0.out);clear hs HEq hf2 HR;go_wp2;clear x0 x1 xf xlt y1 ylt
  refine wp_region_quiet_ext (by kernel_rfl) (by kernel_rfl) ?_
  repeat (go_big_quiet_step (first | (go_at_call 126;exact Calls.ext_of (HCx.out _)) | (go_at_call 152;exact Calls.ext_of (HEx.out _))))
  refine wpQuiet_nil ?_
  intro _ hw';obtain ⟨nq,hw''⟩:=hw';subst hw'';obtain ⟨HBN,HIN⟩:=hd2 (HB0.out.trans ((ext_below W nq).mono HB0.out.size)) (HIw.out.below (ext_below W nq));generalize ext W nq=w5 at *;go_wp2
  go_ret2
  exact ⟨⟨_,_,rfl,HIN.out⟩,HBN.out⟩
theorem kind_of_ok {l:LayL} {i:Int} (h:layOK l i=true):1<=l.kind/\l.kind<=7:=by
 by_cases hk:1<=l.kind/\l.kind<=7
 ·exact hk
 ·unfold layOK at h;rw [condL_none l i hk] at h;cases h
theorem ok_one {l:LayL} {i:Int} (h:layOK l i=true) (hk:l.kind=1):1<=l.out/\l.out<=16384:=by
 unfold layOK condL at h;rw [if_pos hk] at h;simp only [Bool.and_eq_true] at h;have:=h.1.1;unfold outB at this
 simpa using this
theorem ok_two {l:LayL} {i:Int} (h:layOK l i=true) (hk:l.kind=2):(1<=l.out/\l.out<=16384)/\(1<=l.kh/\l.kh<=64)/\(1<=l.kw/\l.kw<=64):=by
 unfold layOK condL at h;rw [if_neg (by omega),if_pos hk] at h;simp only [Bool.and_eq_true] at h;have h1:=h.1.1;have h2:=h.1.2.1;unfold outB at h1;unfold kerB sidB at h2;simp at h1 h2;exact ⟨h1,h2.1,h2.2.1⟩
theorem ok_seven {l:LayL} {i:Int} (h:layOK l i=true) (hk:l.kind=7):l.frm < i:=by
 unfold layOK condL at h;rw [if_neg (by omega),if_neg (by omega),if_neg (by omega),if_neg (by omega),if_pos hk] at h;simp only [Bool.and_eq_true,decide_eq_true_eq] at h;exact h.1.2.1
theorem ints1_of {w:World} {g:Nat} {x:Int} (hx:I64 x) (hc:w.cell? ⟨g,0,none⟩=some (.int .i64 x)) (hg:g < w.heap.size):Ints w Any (some ⟨g,0,none⟩) [x]:=by
 refine ⟨?_,by simp,.inr ⟨g,0,rfl,trivial,hg,fun j d hj=>?_⟩⟩
 ·intro u hu;simp at hu;subst hu;exact hx
 ·match j,hj with
  | 0,hj=>simp at hj;subst hj;exact hc
theorem S12_keep {W w1:World} {g p bs os:Nat} {p0 p1 p2 p3 p4 p5 p6 p7 p8 q0 q1 s:Value} (hg:Box9 W g p0 p1 p2 p3 p4 p5 p6 p7 p8) (hh:Box2 W p q0 q1) (hbs:bs < W.heap.size) (hs:W.cell? ⟨bs,os,none⟩=some s) (hb:Below W.heap.size W w1):
  w1.cell? ⟨p,0,none⟩=some q0/\w1.cell? ⟨p,1,none⟩=some q1/\w1.cell? ⟨g,0,none⟩=some p0/\w1.cell? ⟨g,1,none⟩=some p1/\w1.cell? ⟨g,2,none⟩=some p2/\w1.cell? ⟨g,3,none⟩=some p3/\w1.cell? ⟨g,4,none⟩=some p4/\w1.cell? ⟨g,5,none⟩=some p5/\w1.cell? ⟨g,6,none⟩=some p6/\w1.cell? ⟨g,7,none⟩=some p7/\w1.cell? ⟨g,8,none⟩=some p8/\w1.cell? ⟨bs,os,none⟩=some s:=by
 have h:=hg.below hb;exact ⟨(hb.cell hh.lt).trans hh.c0,(hb.cell hh.lt).trans hh.c1,h.c0,h.c1,h.c2,h.c3,h.c4,h.c5,h.c6,h.c7,h.c8,(hb.cell hbs).trans hs⟩
theorem pOut1 {w:World} {v u:Value} {input:List Int} {S:List (List Int)} {l:LayL} (hv:PlaceV w v input S) (hu:LayV w u l) (hok:layOK l S.length=true) (hc:validL (currL input S)=true) (hk:l.kind=1):
  Calls Tryz.prog 84 #[v,u] w fun e w'=>(∃ a' c',e=.returned (.tuple #[.slice a' (rawL input S l).1.length c',.bool (rawL input S l).2])/\Ints w' Any a' (rawL input S l).1)/\Below w.heap.size w w':=by
 obtain ⟨HPV,HLV⟩:=hd2 hv hu;obtain ⟨ai,ci,hin,hcall⟩:=pIn hv;obtain ⟨a,b,c,d,rfl,h1,h2⟩:=hv.ex;obtain ⟨b1,b2,d1,d2,rfl,r1,r2⟩:=hu.ex;have q1:=h1.len;have q2:=h2.len;have q3:=r1.len;have q4:=r2.len;have q5:=hin.len;obtain ⟨HIn,HCall,HC,HOK⟩:=hd4 hin hcall hc hok;have hraw:rawL input S l=([l.out],decide ((l.weights.length:Int)=l.out * sizeL (currL input S))):=by unfold rawL;rw [if_pos hk]
 obtain ⟨o1,o2⟩:=ok_one hok hk;have HD:=hid (fun W (hb:Below w.heap.size w W)=>pDense (hv.below hb) (hu.below hb) o1 o2 hc);rw [hraw];generalize decide ((l.weights.length:Int)=l.out * sizeL (currL input S))=R at *;clear hraw HIn HCall;have k1:(l.kind==1)=true:=by rw [beq_iff_eq];omega
 clear hv hu h1 h2 r1 r2 hin hcall hc hok hk
 go_enter Tryz.func84,Tryz.ntmps84
 go_upto_region 1 with fail
 have hT:=PBox.mk' w (.slice a input.length c) (.slice b S.length d) (.int .i64 l.kind) (.int .i64 l.frm) (.int .i64 l.out) (.int .i64 l.kh) (.int .i64 l.kw) (.int .i64 l.stride) (.int .i64 l.pad) (.slice b1 l.weights.length d1) (.slice b2 l.bias.length d2) 122 44;generalize (w.alloc (.cells #[.slice a input.length c,.slice b S.length d] 122)).alloc (layO l b1 d1 b2 d2 44)=W at *;have HT:=hid hT;have HB0:Hid (Below w.heap.size w W):=hT.bl;clear hT;obtain ⟨x0,x1,xf,xlt⟩:=HT.out.a;obtain ⟨y0,y1,y2,y3,y4,y5,y6,y7,y8,ylt⟩:=HT.out.b
 go_wp2_with fail
 refine (HD.out W HB0.out).mono ?_
 rintro e w1 ⟨⟨g,rfl,hcg,hlg⟩,hb1⟩;have HB1:=htr HB0 hb1;have HI:=hid (ints1_of ⟨by omega,by omega⟩ hcg hlg);clear hcg hlg hb1 x0 x1 xf xlt y0 y1 y2 y3 y4 y5 y6 y7 y8 ylt;go_wp2
 go_ret2
 exact ⟨⟨_,_,rfl,HI.out⟩,HB1.out⟩
theorem pOut2 {w:World} {v u:Value} {input:List Int} {S:List (List Int)} {l:LayL} (hv:PlaceV w v input S) (hu:LayV w u l) (hok:layOK l S.length=true) (hc:validL (currL input S)=true) (hk:l.kind=2):
  Calls Tryz.prog 84 #[v,u] w fun e w'=>(∃ a' c',e=.returned (.tuple #[.slice a' (rawL input S l).1.length c',.bool (rawL input S l).2])/\Ints w' Any a' (rawL input S l).1)/\Below w.heap.size w w':=by
 obtain ⟨HPV,HLV⟩:=hd2 hv hu;obtain ⟨ai,ci,hin,hcall⟩:=pIn hv;obtain ⟨a,b,c,d,rfl,h1,h2⟩:=hv.ex;obtain ⟨b1,b2,d1,d2,rfl,r1,r2⟩:=hu.ex;have q1:=h1.len;have q2:=h2.len;have q3:=r1.len;have q4:=r2.len;have q5:=hin.len;obtain ⟨HIn,HCall,HC,HOK⟩:=hd4 hin hcall hc hok;have hraw:rawL input S l=([l.out,(winsL (currL input S) l).1,(winsL (currL input S) l).2.1],decide ((winsL (currL input S) l).2.2=0) && decide ((l.weights.length:Int)=l.out * (currL input S).getD 0 0 * l.kh * l.kw)):=by unfold rawL;rw [if_neg (by omega),if_pos hk]
 obtain ⟨⟨o1,o2⟩,⟨g1,g2⟩,g3,g4⟩:=ok_two hok hk;have HD:=hid (fun W (hb:Below w.heap.size w W)=>pConv (hv.below hb) (hu.below hb) o1 o2 g1 g2 g3 g4 hc);rw [hraw];generalize (decide ((winsL (currL input S) l).2.2=0) && decide ((l.weights.length:Int)=l.out * (currL input S).getD 0 0 * l.kh * l.kw))=R at *;generalize (winsL (currL input S) l).1=zR at *;generalize (winsL (currL input S) l).2.1=zC at *;clear hraw HIn HCall;have k1:(l.kind==1)=false:=by rw [beq_eq_false_iff_ne];omega
 have k2:(l.kind==2)=true:=by rw [beq_iff_eq];omega
 clear hv hu h1 h2 r1 r2 hin hcall hc hok hk
 go_enter Tryz.func84,Tryz.ntmps84
 go_upto_region 1 with fail
 have hT:=PBox.mk' w (.slice a input.length c) (.slice b S.length d) (.int .i64 l.kind) (.int .i64 l.frm) (.int .i64 l.out) (.int .i64 l.kh) (.int .i64 l.kw) (.int .i64 l.stride) (.int .i64 l.pad) (.slice b1 l.weights.length d1) (.slice b2 l.bias.length d2) 122 44;generalize (w.alloc (.cells #[.slice a input.length c,.slice b S.length d] 122)).alloc (layO l b1 d1 b2 d2 44)=W at *;have HT:=hid hT;have HB0:Hid (Below w.heap.size w W):=hT.bl;clear hT;obtain ⟨x0,x1,xf,xlt⟩:=HT.out.a;obtain ⟨y0,y1,y2,y3,y4,y5,y6,y7,y8,ylt⟩:=HT.out.b
 go_wp2_with fail
 refine (HD.out W HB0.out).mono ?_
 rintro e w1 ⟨⟨g,c',rfl,hI⟩,hb1⟩;have HB1:=htr HB0 hb1;have HI:=hid hI;clear hI hb1 x0 x1 xf xlt y0 y1 y2 y3 y4 y5 y6 y7 y8 ylt;go_wp2
 go_ret2
 exact ⟨⟨_,_,rfl,HI.out⟩,HB1.out⟩
theorem pOut7 {w:World} {v u:Value} {input:List Int} {S:List (List Int)} {l:LayL} (hv:PlaceV w v input S) (hu:LayV w u l) (hok:layOK l S.length=true) (hc:validL (currL input S)=true) (hk:l.kind=7):
  Calls Tryz.prog 84 #[v,u] w fun e w'=>(∃ a' c',e=.returned (.tuple #[.slice a' (rawL input S l).1.length c',.bool (rawL input S l).2])/\Ints w' Any a' (rawL input S l).1)/\Below w.heap.size w w':=by
 obtain ⟨HPV,HLV⟩:=hd2 hv hu;obtain ⟨ai,ci,hin,hcall⟩:=pIn hv;obtain ⟨a,b,c,d,rfl,h1,h2⟩:=hv.ex;obtain ⟨b1,b2,d1,d2,rfl,r1,r2⟩:=hu.ex;have q1:=h1.len;have q2:=h2.len;have q3:=r1.len;have q4:=r2.len;have q5:=hin.len;obtain ⟨HIn,HCall,HC,HOK⟩:=hd4 hin hcall hc hok;have hraw:rawL input S l=(currL input S,sameL (if 0<=l.frm then S.getD l.frm.toNat [] else input) (currL input S)):=by unfold rawL;rw [if_neg (by omega),if_neg (by omega),if_neg (by omega),if_neg (by omega),if_pos hk]
 have o1:=ok_seven hok hk;have HD:=hid (fun W (hb:Below w.heap.size w W)=>pAdd (hv.below hb) (hu.below hb) o1);rw [hraw];generalize sameL (if 0<=l.frm then S.getD l.frm.toNat [] else input) (currL input S)=R at *;clear hraw HIn HCall o1;have k1:(l.kind==1)=false:=by rw [beq_eq_false_iff_ne];omega
 have k2:(l.kind==2)=false:=by rw [beq_eq_false_iff_ne];omega
 have k3:(l.kind==3)=false:=by rw [beq_eq_false_iff_ne];omega
 have k4:(l.kind==4)=false:=by rw [beq_eq_false_iff_ne];omega
 have k6:(l.kind==6)=false:=by rw [beq_eq_false_iff_ne];omega
 have k7:(l.kind==7)=true:=by rw [beq_iff_eq];omega
 clear hv hu h1 h2 r1 r2 hin hcall hc hok hk
 go_enter Tryz.func84,Tryz.ntmps84
 go_upto_region 1 with fail
 have hT:=PBox.mk' w (.slice a input.length c) (.slice b S.length d) (.int .i64 l.kind) (.int .i64 l.frm) (.int .i64 l.out) (.int .i64 l.kh) (.int .i64 l.kw) (.int .i64 l.stride) (.int .i64 l.pad) (.slice b1 l.weights.length d1) (.slice b2 l.bias.length d2) 122 44;generalize (w.alloc (.cells #[.slice a input.length c,.slice b S.length d] 122)).alloc (layO l b1 d1 b2 d2 44)=W at *;have HT:=hid hT;have HB0:Hid (Below w.heap.size w W):=hT.bl;clear hT;obtain ⟨x0,x1,xf,xlt⟩:=HT.out.a;obtain ⟨y0,y1,y2,y3,y4,y5,y6,y7,y8,ylt⟩:=HT.out.b
 go_wp2_with fail
 refine (HD.out W HB0.out).mono ?_
 rintro e w1 ⟨⟨g,c',rfl,hI⟩,hb1⟩;have HB1:=htr HB0 hb1;have HI:=hid hI;clear hI hb1 x0 x1 xf xlt y0 y1 y2 y3 y4 y5 y6 y7 y8 ylt;go_wp2
 go_ret2
 exact ⟨⟨_,_,rfl,HI.out⟩,HB1.out⟩
theorem pOut5 {w:World} {v u:Value} {input:List Int} {S:List (List Int)} {l:LayL} (hv:PlaceV w v input S) (hu:LayV w u l) (hok:layOK l S.length=true) (hc:validL (currL input S)=true) (hk:l.kind=5):
  Calls Tryz.prog 84 #[v,u] w fun e w'=>(∃ a' c',e=.returned (.tuple #[.slice a' (rawL input S l).1.length c',.bool (rawL input S l).2])/\Ints w' Any a' (rawL input S l).1)/\Below w.heap.size w w':=by
 obtain ⟨HPV,HLV⟩:=hd2 hv hu;obtain ⟨ai,ci,hin,hcall⟩:=pIn hv;obtain ⟨a,b,c,d,rfl,h1,h2⟩:=hv.ex;obtain ⟨b1,b2,d1,d2,rfl,r1,r2⟩:=hu.ex;have q1:=h1.len;have q2:=h2.len;have q3:=r1.len;have q4:=r2.len;have q5:=hin.len;obtain ⟨HIn,HCall,HC,HOK⟩:=hd4 hin hcall hc hok;have hraw:rawL input S l=(currL input S,true):=by unfold rawL;rw [if_neg (by omega),if_neg (by omega),if_neg (by omega),if_neg (by omega),if_neg (by omega)]
 rw [hraw];clear hraw;have k1:(l.kind==1)=false:=by rw [beq_eq_false_iff_ne];omega
 have k2:(l.kind==2)=false:=by rw [beq_eq_false_iff_ne];omega
 have k3:(l.kind==3)=false:=by rw [beq_eq_false_iff_ne];omega
 have k4:(l.kind==4)=false:=by rw [beq_eq_false_iff_ne];omega
 have k6:(l.kind==6)=false:=by rw [beq_eq_false_iff_ne];omega
 have k7:(l.kind==7)=false:=by rw [beq_eq_false_iff_ne];omega
 clear hv hu h1 h2 r1 r2 hin hcall hc hok hk
 go_enter Tryz.func84,Tryz.ntmps84
 go_upto_region 1 with fail
 have hT:=PBox.mk' w (.slice a input.length c) (.slice b S.length d) (.int .i64 l.kind) (.int .i64 l.frm) (.int .i64 l.out) (.int .i64 l.kh) (.int .i64 l.kw) (.int .i64 l.stride) (.int .i64 l.pad) (.slice b1 l.weights.length d1) (.slice b2 l.bias.length d2) 122 44;generalize (w.alloc (.cells #[.slice a input.length c,.slice b S.length d] 122)).alloc (layO l b1 d1 b2 d2 44)=W at *;have HT:=hid hT;have HB0:Hid (Below w.heap.size w W):=hT.bl;clear hT;obtain ⟨x0,x1,xf,xlt⟩:=HT.out.a;obtain ⟨y0,y1,y2,y3,y4,y5,y6,y7,y8,ylt⟩:=HT.out.b
 go_wp2_with fail
 refine (HCall.out W HB0.out).mono ?_
 rintro e w1 ⟨rfl,hb1⟩;have HB1:=htr HB0 hb1;clear hb1 x0 x1 xf xlt y0 y1 y2 y3 y4 y5 y6 y7 y8 ylt;go_wp2
 go_ret2
 exact ⟨⟨_,_,rfl,HIn.out.below HB1.out⟩,HB1.out⟩
theorem pOut6 {w:World} {v u:Value} {input:List Int} {S:List (List Int)} {l:LayL} (hv:PlaceV w v input S) (hu:LayV w u l) (hok:layOK l S.length=true) (hc:validL (currL input S)=true) (hk:l.kind=6):
  Calls Tryz.prog 84 #[v,u] w fun e w'=>(∃ a' c',e=.returned (.tuple #[.slice a' (rawL input S l).1.length c',.bool (rawL input S l).2])/\Ints w' Any a' (rawL input S l).1)/\Below w.heap.size w w':=by
 obtain ⟨HPV,HLV⟩:=hd2 hv hu;obtain ⟨ai,ci,hin,hcall⟩:=pIn hv;obtain ⟨a,b,c,d,rfl,h1,h2⟩:=hv.ex;obtain ⟨b1,b2,d1,d2,rfl,r1,r2⟩:=hu.ex;have q1:=h1.len;have q2:=h2.len;have q3:=r1.len;have q4:=r2.len;have q5:=hin.len;obtain ⟨HIn,HCall,HC,HOK⟩:=hd4 hin hcall hc hok;have hraw:rawL input S l=([sizeL (currL input S)],true):=by unfold rawL;rw [if_neg (by omega),if_neg (by omega),if_neg (by omega),if_pos hk]
 obtain ⟨z1,z2⟩:=validL_size hc;have HZ:=hid (fun W (hI:Ints W Any ai (currL input S))=>tSize ci hI);rw [hraw];generalize sizeL (currL input S)=sz at *;clear hraw;have k1:(l.kind==1)=false:=by rw [beq_eq_false_iff_ne];omega
 have k2:(l.kind==2)=false:=by rw [beq_eq_false_iff_ne];omega
 have k3:(l.kind==3)=false:=by rw [beq_eq_false_iff_ne];omega
 have k4:(l.kind==4)=false:=by rw [beq_eq_false_iff_ne];omega
 have k6:(l.kind==6)=true:=by rw [beq_iff_eq];omega
 clear hv hu h1 h2 r1 r2 hin hcall hc hok hk
 go_enter Tryz.func84,Tryz.ntmps84
 go_upto_region 1 with fail
 have hT:=PBox.mk' w (.slice a input.length c) (.slice b S.length d) (.int .i64 l.kind) (.int .i64 l.frm) (.int .i64 l.out) (.int .i64 l.kh) (.int .i64 l.kw) (.int .i64 l.stride) (.int .i64 l.pad) (.slice b1 l.weights.length d1) (.slice b2 l.bias.length d2) 122 44;generalize (w.alloc (.cells #[.slice a input.length c,.slice b S.length d] 122)).alloc (layO l b1 d1 b2 d2 44)=W at *;have HT:=hid hT;have HB0:Hid (Below w.heap.size w W):=hT.bl;clear hT;obtain ⟨x0,x1,xf,xlt⟩:=HT.out.a;obtain ⟨y0,y1,y2,y3,y4,y5,y6,y7,y8,ylt⟩:=HT.out.b
 go_wp2_with fail
 refine (HCall.out W HB0.out).mono ?_
 rintro e w1 ⟨rfl,hb1⟩;have HB1:=htr HB0 hb1;clear hb1 x0 x1 xf xlt y0 y1 y2 y3 y4 y5 y6 y7 y8 ylt
 go_wp2_with fail
 refine (HZ.out _ (HIn.out.below HB1.out)).mono ?_
 rintro e w2 ⟨rfl,rfl⟩;have HI:=hid (fun W:World=>ints1_of (w:=W.alloc (.cells #[.int .i64 sz] 3)) (g:=W.heap.size) (x:=sz) ⟨by omega,by omega⟩ (by rw [World.cell?_alloc_at _ _ _ _ rfl];rfl) (by simp));go_wp2
 go_ret2
 exact ⟨⟨_,_,rfl,HI.out _⟩,HB1.out.alloc HB1.out.size _⟩
theorem pOut3 {w:World} {v u:Value} {input:List Int} {S:List (List Int)} {l:LayL} (hv:PlaceV w v input S) (hu:LayV w u l) (hok:layOK l S.length=true) (hc:validL (currL input S)=true) (hk:l.kind=3):
  Calls Tryz.prog 84 #[v,u] w fun e w'=>(∃ a' c',e=.returned (.tuple #[.slice a' (rawL input S l).1.length c',.bool (rawL input S l).2])/\Ints w' Any a' (rawL input S l).1)/\Below w.heap.size w w':=by
 obtain ⟨HPV,HLV⟩:=hd2 hv hu;obtain ⟨ai,ci,hin,hcall⟩:=pIn hv;obtain ⟨a,b,c,d,rfl,h1,h2⟩:=hv.ex;obtain ⟨b1,b2,d1,d2,rfl,r1,r2⟩:=hu.ex;have q1:=h1.len;have q2:=h2.len;have q3:=r1.len;have q4:=r2.len;have q5:=hin.len;obtain ⟨HIn,HCall,HC,HOK⟩:=hd4 hin hcall hc hok;have hraw:rawL input S l=([(currL input S).getD 0 0,(winsL (currL input S) l).1,(winsL (currL input S) l).2.1],decide ((winsL (currL input S) l).2.2=0)):=by unfold rawL;rw [if_neg (by omega),if_neg (by omega),if_pos (by omega)]
 have hlen:=(validL_len hc).1;obtain ⟨bs,os,s0,rfl,cs0,hx0,_,hbs,_,s1,s2⟩:=hin.pick2 (k:=0) (by omega);have hs0:(currL input S).getD 0 0=s0:=by rw [List.getD_eq_getElem?_getD,hx0];rfl
 rw [Nat.add_zero] at cs0;obtain ⟨HC0,HCl⟩:=hd2 cs0 hbs;rw [hraw,hs0];have HWin:=hid (fun W (hb:Below w.heap.size w W)=>pWindows (hv.below hb) (hu.below hb) s0 ⟨s1,s2⟩);generalize decide ((winsL (currL input S) l).2.2=0)=OK at *;generalize (winsL (currL input S) l).1=zR at *;generalize (winsL (currL input S) l).2.1=zC at *;have hpos:0 < (currL input S).length:=hlen;generalize hcl:(currL input S).length=cl at *;clear hraw hx0 cs0 hs0 hbs hlen hcl;have k1:(l.kind==1)=false:=by rw [beq_eq_false_iff_ne];omega
 have k2:(l.kind==2)=false:=by rw [beq_eq_false_iff_ne];omega
 have k3:(l.kind==3)=true:=by rw [beq_iff_eq];omega
 clear hv hu h1 h2 r1 r2 hin hcall hc hok hk
 go_enter Tryz.func84,Tryz.ntmps84
 go_upto_region 1 with fail
 have hT:=PBox.mk' w (.slice a input.length c) (.slice b S.length d) (.int .i64 l.kind) (.int .i64 l.frm) (.int .i64 l.out) (.int .i64 l.kh) (.int .i64 l.kw) (.int .i64 l.stride) (.int .i64 l.pad) (.slice b1 l.weights.length d1) (.slice b2 l.bias.length d2) 122 44;generalize (w.alloc (.cells #[.slice a input.length c,.slice b S.length d] 122)).alloc (layO l b1 d1 b2 d2 44)=W at *;have HT:=hid hT;have HB0:Hid (Below w.heap.size w W):=hT.bl;clear hT;obtain ⟨x0,x1,xf,xlt⟩:=HT.out.a;obtain ⟨y0,y1,y2,y3,y4,y5,y6,y7,y8,ylt⟩:=HT.out.b;have HFs:Hid (W.cell? ⟨bs,os,none⟩=some (.int .i64 s0)/\bs < W.heap.size):=⟨(HB0.out.cell (p:=⟨bs,os,none⟩) HCl.out).trans HC0.out,Nat.lt_of_lt_of_le HCl.out HB0.out.size⟩
 have xbl:Below W.heap.size W W.drew:=(Below.refl _ _).drew;have HC2:Hid (∀ w',Below W.heap.size W w'->Calls Tryz.prog 126 #[.agg #[.slice a input.length c,.slice b S.length d]] w' fun e w''=>e=.returned (.slice (some ⟨bs,os,none⟩) cl ci)/\Below W.heap.size W w''):=
  fun w' hb=>(HCall.out w' (HB0.out.trans (hb.mono HB0.out.size))).mono fun e w'' ⟨h1,h2⟩=>⟨h1,hb.trans (h2.mono hb.size)⟩
 have HW2:=hid (fun w' (hb:Below W.heap.size W w')=>(HWin.out w' (HB0.out.trans (hb.mono HB0.out.size))).mono fun e w'' ⟨h1,h2⟩=>(⟨h1,hb.trans (h2.mono hb.size)⟩:_/\Below W.heap.size W w''));clear HWin HCall
 go_upto_region 8 with fail
 clear x0 x1 xf xlt y0 y1 y2 y3 y4 y5 y6 y7 y8 ylt
 go_region_held3 (fun w'=>w'.cell? ⟨w.heap.size,0,none⟩=some (.slice a input.length c)/\w'.cell? ⟨w.heap.size,1,none⟩=some (.slice b S.length d)/\w'.cell? ⟨w.heap.size+1,0,none⟩=some (.int .i64 l.kind)/\w'.cell? ⟨w.heap.size+1,1,none⟩=some (.int .i64 l.frm)/\w'.cell? ⟨w.heap.size+1,2,none⟩=some (.int .i64 l.out)/\w'.cell? ⟨w.heap.size+1,3,none⟩=some (.int .i64 l.kh)/\w'.cell? ⟨w.heap.size+1,4,none⟩=some (.int .i64 l.kw)/\w'.cell? ⟨w.heap.size+1,5,none⟩=some (.int .i64 l.stride)/\w'.cell? ⟨w.heap.size+1,6,none⟩=some (.int .i64 l.pad)/\w'.cell? ⟨w.heap.size+1,7,none⟩=some (.slice b1 l.weights.length d1)/\w'.cell? ⟨w.heap.size+1,8,none⟩=some (.slice b2 l.bias.length d2)/\w'.cell? ⟨bs,os,none⟩=some (.int .i64 s0))
  (first | exact S12_keep HT.out.b HT.out.a HFs.out.2 HFs.out.1 (by assumption))
  (first
   | (go_at_call 126; refine (HC2.out _ ?hb).mono ?_
      case hb=>assumption
      rintro e w1 ⟨rfl,p3⟩)
   | (go_at_call 125; refine (HW2.out _ ?hb2).mono ?_
      case hb2=>assumption
      rintro e w1 ⟨⟨g,rfl,hI⟩,p3⟩))
 all_goals
  obtain ⟨HI,HB6⟩:=hd2 hI (HB0.out.trans (‹Below W.heap.size W w1›.mono HB0.out.size));clear hI;go_wp2
  go_ret2
  exact ⟨⟨_,_,rfl,HI.out⟩,HB6.out⟩
theorem pOut4 {w:World} {v u:Value} {input:List Int} {S:List (List Int)} {l:LayL} (hv:PlaceV w v input S) (hu:LayV w u l) (hok:layOK l S.length=true) (hc:validL (currL input S)=true) (hk:l.kind=4):
  Calls Tryz.prog 84 #[v,u] w fun e w'=>(∃ a' c',e=.returned (.tuple #[.slice a' (rawL input S l).1.length c',.bool (rawL input S l).2])/\Ints w' Any a' (rawL input S l).1)/\Below w.heap.size w w':=by
 obtain ⟨HPV,HLV⟩:=hd2 hv hu;obtain ⟨ai,ci,hin,hcall⟩:=pIn hv;obtain ⟨a,b,c,d,rfl,h1,h2⟩:=hv.ex;obtain ⟨b1,b2,d1,d2,rfl,r1,r2⟩:=hu.ex;have q1:=h1.len;have q2:=h2.len;have q3:=r1.len;have q4:=r2.len;have q5:=hin.len;obtain ⟨HIn,HCall,HC,HOK⟩:=hd4 hin hcall hc hok;have hraw:rawL input S l=([(currL input S).getD 0 0,(winsL (currL input S) l).1,(winsL (currL input S) l).2.1],decide ((winsL (currL input S) l).2.2=0)):=by unfold rawL;rw [if_neg (by omega),if_neg (by omega),if_pos (by omega)]
 have hlen:=(validL_len hc).1;obtain ⟨bs,os,s0,rfl,cs0,hx0,_,hbs,_,s1,s2⟩:=hin.pick2 (k:=0) (by omega);have hs0:(currL input S).getD 0 0=s0:=by rw [List.getD_eq_getElem?_getD,hx0];rfl
 rw [Nat.add_zero] at cs0;obtain ⟨HC0,HCl⟩:=hd2 cs0 hbs;rw [hraw,hs0];have HWin:=hid (fun W (hb:Below w.heap.size w W)=>pWindows (hv.below hb) (hu.below hb) s0 ⟨s1,s2⟩);generalize decide ((winsL (currL input S) l).2.2=0)=OK at *;generalize (winsL (currL input S) l).1=zR at *;generalize (winsL (currL input S) l).2.1=zC at *;have hpos:0 < (currL input S).length:=hlen;generalize hcl:(currL input S).length=cl at *;clear hraw hx0 cs0 hs0 hbs hlen hcl;have k1:(l.kind==1)=false:=by rw [beq_eq_false_iff_ne];omega
 have k2:(l.kind==2)=false:=by rw [beq_eq_false_iff_ne];omega
 have k3:(l.kind==3)=false:=by rw [beq_eq_false_iff_ne];omega
 have k4:(l.kind==4)=true:=by rw [beq_iff_eq];omega
 clear hv hu h1 h2 r1 r2 hin hcall hc hok hk
 go_enter Tryz.func84,Tryz.ntmps84
 go_upto_region 1 with fail
 have hT:=PBox.mk' w (.slice a input.length c) (.slice b S.length d) (.int .i64 l.kind) (.int .i64 l.frm) (.int .i64 l.out) (.int .i64 l.kh) (.int .i64 l.kw) (.int .i64 l.stride) (.int .i64 l.pad) (.slice b1 l.weights.length d1) (.slice b2 l.bias.length d2) 122 44;generalize (w.alloc (.cells #[.slice a input.length c,.slice b S.length d] 122)).alloc (layO l b1 d1 b2 d2 44)=W at *;have HT:=hid hT;have HB0:Hid (Below w.heap.size w W):=hT.bl;clear hT;obtain ⟨x0,x1,xf,xlt⟩:=HT.out.a;obtain ⟨y0,y1,y2,y3,y4,y5,y6,y7,y8,ylt⟩:=HT.out.b;have HFs:Hid (W.cell? ⟨bs,os,none⟩=some (.int .i64 s0)/\bs < W.heap.size):=⟨(HB0.out.cell (p:=⟨bs,os,none⟩) HCl.out).trans HC0.out,Nat.lt_of_lt_of_le HCl.out HB0.out.size⟩
 have xbl:Below W.heap.size W W.drew:=(Below.refl _ _).drew;have HC2:Hid (∀ w',Below W.heap.size W w'->Calls Tryz.prog 126 #[.agg #[.slice a input.length c,.slice b S.length d]] w' fun e w''=>e=.returned (.slice (some ⟨bs,os,none⟩) cl ci)/\Below W.heap.size W w''):=
  fun w' hb=>(HCall.out w' (HB0.out.trans (hb.mono HB0.out.size))).mono fun e w'' ⟨h1,h2⟩=>⟨h1,hb.trans (h2.mono hb.size)⟩
 have HW2:=hid (fun w' (hb:Below W.heap.size W w')=>(HWin.out w' (HB0.out.trans (hb.mono HB0.out.size))).mono fun e w'' ⟨h1,h2⟩=>(⟨h1,hb.trans (h2.mono hb.size)⟩:_/\Below W.heap.size W w''));clear HWin HCall
 go_upto_region 8 with fail
 clear x0 x1 xf xlt y0 y1 y2 y3 y4 y5 y6 y7 y8 ylt
 go_region_held3 (fun w'=>w'.cell? ⟨w.heap.size,0,none⟩=some (.slice a input.length c)/\w'.cell? ⟨w.heap.size,1,none⟩=some (.slice b S.length d)/\w'.cell? ⟨w.heap.size+1,0,none⟩=some (.int .i64 l.kind)/\w'.cell? ⟨w.heap.size+1,1,none⟩=some (.int .i64 l.frm)/\w'.cell? ⟨w.heap.size+1,2,none⟩=some (.int .i64 l.out)/\w'.cell? ⟨w.heap.size+1,3,none⟩=some (.int .i64 l.kh)/\w'.cell? ⟨w.heap.size+1,4,none⟩=some (.int .i64 l.kw)/\w'.cell? ⟨w.heap.size+1,5,none⟩=some (.int .i64 l.stride)/\w'.cell? ⟨w.heap.size+1,6,none⟩=some (.int .i64 l.pad)/\w'.cell? ⟨w.heap.size+1,7,none⟩=some (.slice b1 l.weights.length d1)/\w'.cell? ⟨w.heap.size+1,8,none⟩=some (.slice b2 l.bias.length d2)/\w'.cell? ⟨bs,os,none⟩=some (.int .i64 s0))
  (first | exact S12_keep HT.out.b HT.out.a HFs.out.2 HFs.out.1 (by assumption))
  (first
   | (go_at_call 126; refine (HC2.out _ ?hb).mono ?_
      case hb=>assumption
      rintro e w1 ⟨rfl,p3⟩)
   | (go_at_call 125; refine (HW2.out _ ?hb2).mono ?_
      case hb2=>assumption
      rintro e w1 ⟨⟨g,rfl,hI⟩,p3⟩))
 all_goals
  obtain ⟨HI,HB6⟩:=hd2 hI (HB0.out.trans (‹Below W.heap.size W w1›.mono HB0.out.size));clear hI;go_wp2
  go_ret2
  exact ⟨⟨_,_,rfl,HI.out⟩,HB6.out⟩
theorem pOut {w:World} {v u:Value} {input:List Int} {S:List (List Int)} {l:LayL} (hv:PlaceV w v input S) (hu:LayV w u l) (hok:layOK l S.length=true) (hc:validL (currL input S)=true):
  Calls Tryz.prog 84 #[v,u] w fun e w'=>(∃ a' c',e=.returned (.tuple #[.slice a' (rawL input S l).1.length c',.bool (rawL input S l).2])/\Ints w' Any a' (rawL input S l).1)/\Below w.heap.size w w':=by
 have hk:=kind_of_ok hok;have:l.kind=1 ∨ l.kind=2 ∨ l.kind=3 ∨ l.kind=4 ∨ l.kind=5 ∨ l.kind=6 ∨ l.kind=7:=by omega
 rcases this with h | h | h | h | h | h | h
 ·exact pOut1 hv hu hok hc h
 ·exact pOut2 hv hu hok hc h
 ·exact pOut3 hv hu hok hc h
 ·exact pOut4 hv hu hok hc h
 ·exact pOut5 hv hu hok hc h
 ·exact pOut6 hv hu hok hc h
 ·exact pOut7 hv hu hok hc h
theorem Tryz.infoLay:(Tryz.prog.info? 44).map (fun i=>(i.zero,i.size,i.bytes))=some (some (.agg #[.int .i64 0,.int .i64 0,.int .i64 0,.int .i64 0,.int .i64 0,.int .i64 0,.int .i64 0,.slice none 0 0,.slice none 0 0]),9,104):=by kernel_rfl
def layC (l:LayL) (a1 a2:Option Addr) (c1 c2:Nat):List Value:=[.int .i64 l.kind,.int .i64 l.frm,.int .i64 l.out,.int .i64 l.kh,.int .i64 l.kw,.int .i64 l.stride,.int .i64 l.pad,.slice a1 l.weights.length c1,.slice a2 l.bias.length c2]
theorem flat9:∀ {CL:List (List Value)} {j i:Nat} {c:List Value} {u:Value},(∀ c ∈ CL,c.length=9)->CL[j]? =some c->c[i]? =some u->CL.flatten[j * 9+i]? =some u:=by
 intro CL
 induction CL with
 | nil=>intro j i c u _ h _;simp at h
 | cons d r ih=>
  intro j i c u h9 hj hi;have hd:=h9 d (by simp);rw [List.flatten_cons]
  cases j with
  | zero=>
   simp at hj;subst hj;have hlt:=(List.getElem?_eq_some_iff.1 hi).1;rw [Nat.zero_mul,Nat.zero_add,List.getElem?_append_left (by omega)];exact hi
  | succ j=>
   rw [List.getElem?_append_right (by rw [hd];omega),hd,show (j+1) * 9+i - 9=j * 9+i by omega];exact ih (fun c hc=>h9 c (by simp [hc])) (by simpa using hj) hi
theorem own_lays {w:World} {base n T:Nat} {v:Value} {CL:List (List Value)} {L:List LayL} (hown:w.ownsRow base T 9 v n CL.flatten) (hn:n=L.length) (hn2:n<=1000000) (hCL:CL.length=n)
  (hrow:∀ (j:Nat) (c:List Value) (l:LayL),CL[j]? =some c->L[j]? =some l->∃ a1 a2 c1 c2,c=layC l a1 a2 c1 c2/\RatsAt w a1 l.weights/\RatsAt w a2 l.bias) (h9:∀ c ∈ CL,c.length=9):
  ∃ a cap,v=.slice a L.length cap/\LaysAt w a L:=by
 subst hn
 rcases hown.2 with ⟨rfl,h0⟩ | ⟨g,cap,cur,rfl,hb,hg,_⟩
 ·rw [h0];have:L=[]:=List.eq_nil_of_length_eq_zero h0;subst this;exact ⟨none,0,rfl,LaysAt.nil _ _⟩
 ·refine ⟨_,cap,rfl,⟨by omega,.inr ⟨g,0,rfl,(Array.getElem?_eq_some_iff.1 hg).1,fun j l hj=>?_⟩⟩⟩
  have hlt:=(List.getElem?_eq_some_iff.1 hj).1;obtain ⟨c,hc⟩:∃ c,CL[j]? =some c:=⟨CL[j],List.getElem?_eq_getElem (by omega)⟩
  obtain ⟨a1,a2,c1,c2,rfl,r1,r2⟩:=hrow j c l hc hj;have key:∀ (i:Nat) (u:Value),(layC l a1 a2 c1 c2)[i]? =some u->w.cell? ⟨g,0+j * 9+i,none⟩=some u:=by
   intro i u hu;have:=hown.cells (g:=g) rfl (j * 9+i) u (flat9 h9 hc hu);rw [Addr.add_lit] at this;rw [Nat.zero_add]
   simpa using this
  exact ⟨a1,a2,c1,c2,⟨by simpa using key 0 _ rfl,key 1 _ rfl,key 2 _ rfl,key 3 _ rfl,key 4 _ rfl,key 5 _ rfl,key 6 _ rfl,key 7 _ rfl,key 8 _ rfl⟩,r1,r2⟩
structure MkL (w0 w:World) (M T:Nat) (inp v:Value) (CL:List (List Value)):Prop where
 box:w.heap[M]? =some (.cells #[inp,v] T (0,0))
 own:w.ownsRow w0.heap.size 44 9 v CL.length CL.flatten
 nM:v.ownBlock ≠ some M
 ge:w0.heap.size<=M
 be:Below w0.heap.size w0 w
theorem MkL.c1 {w0 w:World} {M T:Nat} {inp v:Value} {CL:List (List Value)} (h:MkL w0 w M T inp v CL):w.cell? ⟨M,1,none⟩=some v:=by simp [World.cell?,h.box]
theorem MkL.lt {w0 w:World} {M T:Nat} {inp v:Value} {CL:List (List Value)} (h:MkL w0 w M T inp v CL):M < w.heap.size:=(Array.getElem?_eq_some_iff.1 h.box).1
theorem MkL.mid {w0 w w':World} {M T:Nat} {inp v v':Value} {CL:List (List Value)} {c:List Value} {o:Obj} (h:MkL w0 w M T inp v CL) (hg:(w.alloc o).grownBy w' v.ownBlock):
  w'.heap[M]? =some (.cells #[inp,v] T (0,0))/\w'.cell? ⟨M,1,none⟩=some v/\w'.frozen? ⟨M,1,none⟩=false:=by
 have hlt:=h.lt;have hb:w'.heap[M]? =some (.cells #[inp,v] T (0,0)):=by
  rw [hg.block M (by simp;omega) (fun e=>h.nM e.symm)];show (w.heap.push o)[M]? =_
  rw [Array.getElem?_push_lt hlt, <- Array.getElem?_eq_getElem hlt];exact h.box
 exact ⟨hb,by simp [World.cell?,hb],by simp [World.frozen?,hb]⟩
theorem MkL.step {w0 w w':World} {M T:Nat} {inp v v':Value} {CL:List (List Value)} {c:List Value} {o:Obj} (h:MkL w0 w M T inp v CL) (ho:w'.ownsRow w0.heap.size 44 9 v' (CL.length+1) (CL.flatten++c))
  (hg:(w.alloc o).grownBy w' v.ownBlock) (hn:Next (w.alloc o) v v'):MkL w0 (w'.setCell ⟨M,1,none⟩ v') M T inp v' (CL++[c]):=by
 have hlt:=h.lt;have hb:=(h.mid (v':=v') (c:=c) hg).1;have hne:v'.ownBlock ≠ some M:=by
  rcases hn with e | ⟨g,e,hge⟩
  ·rw [e];exact h.nM
  ·rw [e];intro e2;cases e2;simp at hge;omega
 have hal:Below w.heap.size w (w.alloc o):=(Below.refl _ _).alloc (Nat.le_refl _) _
 refine ⟨?_,?_,hne,h.ge,?_⟩
 ·unfold World.setCell;simp only [Array.getElem?_modify,if_pos,hb,Option.map_some];rfl
 ·rw [List.length_append,List.flatten_append];simp only [List.length_cons,List.length_nil,List.flatten_cons,List.flatten_nil,List.append_nil,Nat.zero_add];exact ownsRow_setCell_other ho hne _
 ·have h1:=(h.be.trans (hal.mono h.be.size)).grown hg (by have:=h.be.size;simp;omega) (fun k hk=>(h.own.lt k hk).1);exact h1.setCell h.ge _
theorem srcOK_alloc9 (w:World) (c:List Value) (T:Nat) (h9:c.length=9) (h1:∀ u ∈ c,u.oneCell'=true):SrcOK (w.alloc (.cells c.toArray T)) (some ⟨w.heap.size,0,none⟩) 1 9 c:=by
 refine ⟨by omega,h1,fun _=>⟨w.heap.size,0,rfl,by simp,fun j u hj=>?_⟩⟩
 rw [Nat.zero_add,World.cell?_alloc_at _ _ _ _ rfl]
 simpa using hj
theorem layC_one (l:LayL) (a1 a2:Option Addr) (c1 c2:Nat):∀ u ∈ layC l a1 a2 c1 c2,u.oneCell'=true:=by
 intro u hu;unfold layC at hu;simp at hu
 rcases hu with rfl | rfl | rfl | rfl | rfl | rfl | rfl | rfl | rfl <;> rfl
end Go.Proofs.YtfgmmghmmfmdgaaGreat
