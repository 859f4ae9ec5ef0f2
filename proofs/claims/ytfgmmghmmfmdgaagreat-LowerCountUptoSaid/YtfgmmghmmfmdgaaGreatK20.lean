/-
  Contracts of the functions that the statement reaches: IntD, RatH, RatI, EvS.
-/
import Derived.Test.YtfgmmghmmfmdgaaGreatK19
import Derived.Test.YtfgmmghmmfmdgaaGreatK17
set_option linter.all false
set_option maxRecDepth 100000
set_option maxHeartbeats 3200000
namespace Go.Proofs.YtfgmmghmmfmdgaaGreat
open Go.RowKit
open Go.Lib (hid)
def RetIZ (w:World) (z:Int) (k:Nat) (e:Ending) (w':World):Prop:=∃ v s m,e=.returned v/\IntV w' v s m k/\sgn s m=z/\Below w.heap.size w w'
theorem sgn_andI (neg:Bool) (n:Nat):sgn (neg && decide (n ≠ 0)) n=sgn neg n:=by
 cases neg
 ·rfl
 ·by_cases h:n=0
  ·subst h;simp [sgn]
  ·simp [sgn,h]
theorem IntV.store2 {w:World} {g:Nat} {b:Bool} {n k:Nat} {a:Option Addr} {c:Nat} {l:List Nat} (hN:NoInt w g) (h1:l.length<=c) (h2:U32s w a l) (h3:lval l=n) (h4:l.length<=k):
  IntV ((w.setCell ⟨g,0,none⟩ (.bool b)).setCell ⟨g,1,none⟩ (.slice a l.length c)) (.agg #[.bool b,.slice a l.length c]) b n k:=
 ⟨a,c,l,rfl,h1,(h2.setCell hN _ _).setCell (hN.setCell _ _ (by simp)) _ _,h3,h4⟩
theorem add_lenK {x y k1 k2:Nat} (h1:(limbs x).length<=k1) (h2:(limbs y).length<=k2):(limbs (x+y)).length<=k1+k2+1:=by
 have h:=add_len (lim_limbs x) (lim_limbs y) (N:=k1+k2) (by omega) (by omega)
 rwa [lval_limbs,lval_limbs] at h
theorem iAdd_same {w:World} {v u:Value} {n1:Bool} {x y k1 k2:Nat} (hv:IntV w v n1 x k1) (hu:IntV w u n1 y k2) (hr:k1+k2<=1759218604441):
  Calls Tryz.prog 160 #[v,u] w (RetIZ w (sgn n1 x+sgn n1 y) (k1+k2+1)):=by
 obtain ⟨a,c,l,rfl,h1,h2,h3,h4⟩:=hv.ex;obtain ⟨b,d,m,rfl,g1,g2,g3,g4⟩:=hu.ex;have hl1:=h2.len;have hl2:=g2.len;have hsl:(limbs (x+y)).length<=k1+k2+1:=add_lenK (Nat.le_trans (by rw [<- h3];exact limbs_len_of_lval h2.lim) h4) (Nat.le_trans (by rw [<- g3];exact limbs_len_of_lval g2.lim) g4);obtain ⟨HSl,H2,G2,H3,G3⟩:=hd5 hsl h2 g2 h3 g3;have HZ:Hid (sgn (n1 && decide (x+y ≠ 0)) (x+y)=sgn n1 x+sgn n1 y):=by unfold Hid;rw [sgn_andI,sgn_add_same]
 have hlr:l.length+m.length<=17592186044416:=by omega
 have hkr:k1+k2+1<=17592186044416:=by omega
 have HAd:Hid (∀ wv,U32s wv a l->U32s wv b m->Calls Tryz.prog 178 #[.slice a l.length c,.slice b m.length d] wv (RetN wv (x+y))):=fun wv q1 q2=>nAdd c d h1 g1 q1 q2 H3.out G3.out hlr
 have HMk:Hid (∀ wv a1 c1,(limbs (x+y)).length<=c1->U32s wv a1 (limbs (x+y))->Calls Tryz.prog 177 #[.bool n1,.slice a1 (limbs (x+y)).length c1] wv (fun e w'=>∃ v,e=.returned v/\IntV w' v (n1 && decide (x+y ≠ 0)) (x+y) (k1+k2+1)/\Below wv.heap.size wv w')):=fun wv a1 c1 q1 q2=>iMake n1 c1 (k1+k2+1) q1 q2 (lval_limbs _) HSl.out hkr
 generalize sgn n1 x+sgn n1 y=Z at *;generalize (n1 && decide (x+y ≠ 0))=B at *;generalize x+y=S at *;clear hv hu h2 g2 h3 g3 hsl
 go_enter Tryz.func160,Tryz.ntmps160
 have hF:=TwoI.mk' w (.bool n1) (.slice a l.length c) (.bool n1) (.slice b m.length d) 89;go_wp2;generalize ((w.alloc (.cells #[.bool n1,.slice a l.length c] 89)).alloc (.cells #[.bool n1,.slice b m.length d] 89)).alloc (.cells #[.bool false,.slice none 0 0] 89)=W at *;obtain ⟨HF,HH2,HG2⟩:=hd3 hF (H2.out.below hF.bl) (G2.out.below hF.bl);have xbl:Below W.heap.size W W.drew:=(Below.refl _ _).drew;clear hF H2 G2
 go_region_held3 (fun w'=>w'.cell? ⟨w.heap.size,0,none⟩=some (.bool n1)/\w'.cell? ⟨w.heap.size,1,none⟩=some (.slice a l.length c)/\w'.cell? ⟨w.heap.size+1,0,none⟩=some (.bool n1)/\w'.cell? ⟨w.heap.size+1,1,none⟩=some (.slice b m.length d))
  (first | exact S22_keep HF.out.a HF.out.b ‹Below W.heap.size W _› | exact S22_store HF.out.a HF.out.b ‹Below W.heap.size W _› _ _)
  (first
   | (go_at_call 178; have hS := ‹Below W.heap.size W _›; refine (HAd.out _ (HH2.out.below hS) (HG2.out.below hS)).mono ?_; rintro e w1 ⟨a1, c1, rfl, p1, p2, p3⟩
      have hS1:=hS.trans (p3.mono hS.size))
   | (go_at_call 177; have hS := ‹Below W.heap.size W _›; refine (HMk.out _ _ _ p1 p2).mono ?_
      rintro e w2 ⟨v2,rfl,⟨a3,c3,l3,rfl,q1,q2,q3,q4⟩,q5⟩;have hS2:=hS.trans (q5.mono hS.size);obtain ⟨r0,r1,rf,rlt⟩:=HF.out.c.below hS2;obtain ⟨hN2,Q2⟩:=hd2 (HF.out.nc.below hS2 HF.out.c.lt) q2;have hB2:=hid (HF.out.bl.trans (hS2.mono (by have:=HF.out.a.lt;omega)))))
 obtain ⟨HI,HBf⟩:=hd2 (IntV.store2 (b:=B) hN2.out q1 Q2.out q3 q4) (below_store2 (p:=.bool B) (q:=.slice a3 l3.length c3) hB2.out (show w.heap.size<=w.heap.size+1+1 by omega));clear q3;go_wp2;exact bodyPost_ret (v:=.agg #[.bool B,.slice a3 l3.length c3]) (by simp [results,Tryz.results160,go_sem,r0,r1]) rfl ⟨_,B,S,rfl,HI.out,HZ.out,HBf.out⟩
structure TwoN (w W:World) (g:Nat) (p q r s:Value):Prop where
 f:TwoI w W g p q r s
 na:NoInt W g
 nb:NoInt W (g+1)
theorem TwoN.mk' (w:World) (n1 n2:Bool) (a b:Option Addr) (l m c d:Nat) (T:Nat):
  TwoN w (((w.alloc (.cells #[.bool n1,.slice a l c] T)).alloc (.cells #[.bool n2,.slice b m d] T)).alloc (.cells #[.bool false,.slice none 0 0] T)) w.heap.size (.bool n1) (.slice a l c) (.bool n2) (.slice b m d):=by
 have step:∀ (W:World) (o:Obj),Below W.heap.size W (W.alloc o):=fun W o=>(Below.refl _ _).alloc (Nat.le_refl _) _
 have b1:=Box2.alloc w (.bool n1) (.slice a l c) T;have b2:=Box2.alloc (w.alloc (.cells #[.bool n1,.slice a l c] T)) (.bool n2) (.slice b m d) T;have m1:=NoInt.alloc w #[.bool n1,.slice a l c] T (by simp);have m2:=NoInt.alloc (w.alloc (.cells #[.bool n1,.slice a l c] T)) #[.bool n2,.slice b m d] T (by simp)
 refine ⟨TwoI.mk' w _ _ _ _ T,(m1.below (step _ _) b1.lt).below (step _ _) (b1.below (step _ (.cells #[.bool n2,.slice b m d] T))).lt,?_⟩
 have:=m2.below (step (((w.alloc (.cells #[.bool n1,.slice a l c] T)).alloc (.cells #[.bool n2,.slice b m d] T))) (.cells #[.bool false,.slice none 0 0] T)) b2.lt
 simpa using this
theorem Box2.farI {w:World} {p q:Nat} {b s:Value} (hb:Box2 w p b s) (hne:q ≠ p) (o:Nat) (v:Value):Box2 (w.setCell ⟨q,o,none⟩ v) p b s:=
 ⟨(far2 hne).trans hb.c0,(far2 hne).trans hb.c1,fun i=>by simp [World.frozen?_setCell,hb.free],by simpa using hb.lt⟩
theorem Box2.storeI {w:World} {g:Nat} {p q:Value} (h:Box2 w g p q) (p' q':Value):Box2 ((w.setCell ⟨g,0,none⟩ p').setCell ⟨g,1,none⟩ q') g p' q':=by
 refine ⟨?_,?_,fun i=>by simp [World.frozen?_setCell,h.free],by simpa using h.lt⟩
 ·rw [World.cell?_setCell_other _ _ _ _ (by intro e;cases e)];exact World.cell?_setCell_same _ _ _ h.c0
 ·exact World.cell?_setCell_same _ _ _ ((World.cell?_setCell_other _ _ _ _ (by intro e;cases e)).trans h.c1)
structure Swap (w1 W5:World) (g:Nat) (p q r s:Value):Prop where
 a:Box2 W5 g r s
 b:Box2 W5 (g+1) p q
 c:Box2 W5 (g+1+1) (.bool false) (.slice none 0 0)
 nc:NoInt W5 (g+1+1)
 sz:W5.heap.size=w1.heap.size
theorem TwoN.swap {w W w1:World} {g:Nat} {p q r s:Value} (h:TwoN w W g p q r s) (hb:Below W.heap.size W w1):Swap w1 ((((w1.setCell ⟨g,0,none⟩ r).setCell ⟨g,1,none⟩ s).setCell ⟨g+1,0,none⟩ p).setCell ⟨g+1,1,none⟩ q) g p q r s:=by
 have A:=h.f.a.below hb;have B:=h.f.b.below hb;have C:=h.f.c.below hb;have N:=h.f.nc.below hb h.f.c.lt
 refine ⟨?_,?_,?_,?_,by simp⟩
 ·exact ((A.storeI r s).farI (by omega) _ _).farI (by omega) _ _
 ·exact ((B.farI (by omega) _ _).farI (by omega) _ _).storeI p q
 ·exact (((C.farI (by omega) _ _).farI (by omega) _ _).farI (by omega) _ _).farI (by omega) _ _
 ·exact (((N.far (by omega) _ _).far (by omega) _ _).far (by omega) _ _).far (by omega) _ _
theorem TwoN.swapU {w W w1:World} {g:Nat} {p q r s:Value} (h:TwoN w W g p q r s) (hb:Below W.heap.size W w1) (hr:∀ x,r ≠ .int .u32 x) (hs:∀ x,s ≠ .int .u32 x) (hp:∀ x,p ≠ .int .u32 x) {a:Option Addr} {l:List Nat} (hu:U32s w1 a l):
  U32s ((((w1.setCell ⟨g,0,none⟩ r).setCell ⟨g,1,none⟩ s).setCell ⟨g+1,0,none⟩ p).setCell ⟨g+1,1,none⟩ q) a l:=by
 have NA:=h.na.below hb h.f.a.lt;have NB:=h.nb.below hb h.f.b.lt
 refine (((hu.setCell NA _ _).setCell (NA.setCell _ _ hr) _ _).setCell ?_ _ _).setCell ?_ _ _
 ·exact (NB.far (by omega) _ _).far (by omega) _ _
 ·exact ((NB.far (by omega) _ _).far (by omega) _ _).setCell _ _ hp
theorem iAdd_diff {w:World} {v u:Value} {n1 n2:Bool} {x y k1 k2:Nat} (hv:IntV w v n1 x k1) (hu:IntV w u n2 y k2) (hn:n1 ≠ n2) (hr:k1+k2<=1759218604441):
  Calls Tryz.prog 160 #[v,u] w (RetIZ w (sgn n1 x+sgn n2 y) (k1+k2+1)):=by
 obtain ⟨a,c,l,rfl,h1,h2,h3,h4⟩:=hv.ex;obtain ⟨b,d,m,rfl,g1,g2,g3,g4⟩:=hu.ex;have hl1:=h2.len;have hl2:=g2.len;obtain ⟨H2,G2,H3,G3⟩:=hd4 h2 g2 h3 g3;have hne:(n1==n2)=false:=by simpa using hn
 have HN:=hid hn;have hlx:(limbs x).length<=k1:=Nat.le_trans (by rw [<- h3];exact limbs_len_of_lval h2.lim) h4;have hly:(limbs y).length<=k2:=Nat.le_trans (by rw [<- g3];exact limbs_len_of_lval g2.lim) g4;have hlr:l.length+m.length<=17592186044416:=by omega
 have hlr2:m.length+l.length<=17592186044416:=by omega
 have hkr:k1+k2+1<=17592186044416:=by omega
 have HMk:Hid (∀ (nb:Bool) (V:Nat) wv a1 c1,(limbs V).length<=k1+k2+1->(limbs V).length<=c1->U32s wv a1 (limbs V)->Calls Tryz.prog 177 #[.bool nb,.slice a1 (limbs V).length c1] wv (fun e w'=>∃ v B,e=.returned v/\IntV w' v B V (k1+k2+1)/\sgn B V=sgn nb V/\Below wv.heap.size wv w')):=
  fun nb V wv a1 c1 q0 q1 q2=>(iMake nb c1 (k1+k2+1) q1 q2 (lval_limbs _) q0 hkr).mono fun e w' ⟨v,r1,r2,r3⟩=>⟨v,_,r1,r2,sgn_andI nb V,r3⟩
 clear hv hu h2 g2 h3 g3 hn
 go_enter Tryz.func160,Tryz.ntmps160
 have hF:=TwoN.mk' w n1 n2 a b l.length m.length c d 89
 go_wp2_with fail
 generalize ((w.alloc (.cells #[.bool n1,.slice a l.length c] 89)).alloc (.cells #[.bool n2,.slice b m.length d] 89)).alloc (.cells #[.bool false,.slice none 0 0] 89)=W at *;obtain ⟨HF,HH2,HG2⟩:=hd3 hF (H2.out.below hF.f.bl) (G2.out.below hF.f.bl);have HCm:=hid (nCmp c d h1 g1 HH2.out HG2.out H3.out G3.out);clear hF H2 G2 hne
 refine HCm.out.mono ?_
 rintro e w1 ⟨rfl,n0,hw1⟩;have hb1:Below W.heap.size W w1:=by subst hw1;exact Below.drewN_refl _ _
 have HB1:=hid hb1;obtain ⟨r0,r1,rf,rlt⟩:=HF.out.f.a.below hb1;obtain ⟨s0,s1,sf,slt⟩:=HF.out.f.b.below hb1;clear hb1 HCm hw1
 by_cases hlt:x < y
 ·have hc:cmpN x y= -1:=cmpN_lt hlt;obtain ⟨HSw,HA5,HB5⟩:=hd3 (HF.out.swap HB1.out) (HF.out.swapU HB1.out (r:=.bool n2) (s:=.slice b m.length d) (by simp) (by simp) (by simp) (HH2.out.below HB1.out)) (HF.out.swapU HB1.out (r:=.bool n2) (s:=.slice b m.length d) (by simp) (by simp) (by simp) (HG2.out.below HB1.out));have hb5:Below w.heap.size w ((((w1.setCell ⟨w.heap.size,0,none⟩ (.bool n2)).setCell ⟨w.heap.size,1,none⟩ (.slice b m.length d)).setCell ⟨w.heap.size+1,0,none⟩ (.bool n1)).setCell ⟨w.heap.size+1,1,none⟩ (.slice a l.length c)):=
   below_store2 (below_store2 (HF.out.f.bl.trans (HB1.out.mono (by have:=HF.out.f.a.lt;omega))) (Nat.le_refl _) _ _) (by omega) _ _
  obtain ⟨HBw,HZ,HLe⟩:=hd3 hb5 (sgn_add_lt HN.out hlt) (show x<=y by omega);have hsb:(limbs (y - x)).length<=k1+k2+1:=by have:=limbs_len_mono (Nat.sub_le y x);omega
  have HSb:=hid hsb;have fa0:=rf 0;have fa1:=rf 1;have fb0:=sf 0;have fb1:=sf 1;clear hb5 hsb rf sf hlt
  go_upto_region 5 with fail
  clear fa0 fa1 fb0 fb1;generalize ((((w1.setCell ⟨w.heap.size,0,none⟩ (.bool n2)).setCell ⟨w.heap.size,1,none⟩ (.slice b m.length d)).setCell ⟨w.heap.size+1,0,none⟩ (.bool n1)).setCell ⟨w.heap.size+1,1,none⟩ (.slice a l.length c))=W5 at *;have HSub:=hid (nSub d c g1 h1 HB5.out HA5.out G3.out H3.out hlr2 HLe.out);clear r0 r1 rlt s0 s1 slt hc;obtain ⟨r0,r1,rf,rlt⟩:=HSw.out.a;obtain ⟨s0,s1,sf,slt⟩:=HSw.out.b;clear rf sf
  go_wp2_with fail
  refine HSub.out.mono ?_
  rintro e w2 ⟨a1,c1,rfl,p1,p2,hb2⟩;obtain ⟨HB2,HM⟩:=hd2 hb2 (HMk.out n2 (y - x) w2 a1 c1 HSb.out p1 p2);obtain ⟨r0',r1',rf',rlt'⟩:=HSw.out.a.below hb2;clear p2 hb2 HSub r0 r1 rlt s0 s1 slt rf'
  go_wp2_with fail
  refine HM.out.mono ?_
  rintro e w3 ⟨v3,B,rfl,⟨a3,c3,l3,rfl,q1,q2,q3,q4⟩,hsg,q5⟩;have hS3:=HB2.out.trans (q5.mono HB2.out.size);obtain ⟨t0,t1,tf,tlt⟩:=HSw.out.c.below hS3;have HI:=hid (IntV.store2 (b:=B) (HSw.out.nc.below hS3 HSw.out.c.lt) q1 q2 q3 q4);have hle:w.heap.size<=W5.heap.size:=HBw.out.size;obtain ⟨HBf,HSg⟩:=hd2 (below_store2 (p:=.bool B) (q:=.slice a3 l3.length c3) (HBw.out.trans (hS3.mono hle)) (show w.heap.size<=w.heap.size+1+1 by omega)) (hsg.trans HZ.out);clear q2 q3 q5 hS3 HM hsg;go_wp2;exact bodyPost_ret (v:=.agg #[.bool B,.slice a3 l3.length c3]) (by simp [results,Tryz.results160,go_sem,t0,t1]) rfl ⟨_,B,_,rfl,HI.out,HSg.out,HBf.out⟩
 ·have hge:y<=x:=by omega
  have hc:decide (cmpN x y < 0)=false:=by
   apply decide_eq_false
   unfold cmpN;rw [if_neg hlt]
   split <;> omega
  obtain ⟨HSub,HZ⟩:=hd2 (nSub c d h1 g1 (HH2.out.below HB1.out) (HG2.out.below HB1.out) H3.out G3.out hlr hge) (sgn_add_ge HN.out hge);have hsb:(limbs (x - y)).length<=k1+k2+1:=by have:=limbs_len_mono (Nat.sub_le x y);omega
  have HSb:=hid hsb;clear hsb rf sf hlt
  go_wp2_with fail
  refine HSub.out.mono ?_
  rintro e w2 ⟨a1,c1,rfl,p1,p2,hb2⟩;have HB2:=htr HB1 hb2;have HM:=hid (HMk.out n1 (x - y) w2 a1 c1 HSb.out p1 p2);obtain ⟨r0',r1',rf',rlt'⟩:=HF.out.f.a.below HB2.out;clear p2 hb2 HSub r0 r1 rlt s0 s1 slt rf' hc
  go_wp2_with fail
  refine HM.out.mono ?_
  rintro e w3 ⟨v3,B,rfl,⟨a3,c3,l3,rfl,q1,q2,q3,q4⟩,hsg,q5⟩;have hS3:=HB2.out.trans (q5.mono HB2.out.size);obtain ⟨t0,t1,tf,tlt⟩:=HF.out.f.c.below hS3;obtain ⟨HI,HBf,HSg⟩:=hd3 (IntV.store2 (b:=B) (HF.out.f.nc.below hS3 HF.out.f.c.lt) q1 q2 q3 q4) (below_store2 (p:=.bool B) (q:=.slice a3 l3.length c3) (HF.out.f.bl.trans (hS3.mono (by have:=HF.out.f.a.lt;omega))) (show w.heap.size<=w.heap.size+1+1 by omega)) (hsg.trans HZ.out);clear q2 q3 q5 hS3 HM hsg;go_wp2;exact bodyPost_ret (v:=.agg #[.bool B,.slice a3 l3.length c3]) (by simp [results,Tryz.results160,go_sem,t0,t1]) rfl ⟨_,B,_,rfl,HI.out,HSg.out,HBf.out⟩
theorem iAdd {w:World} {v u:Value} {n1 n2:Bool} {x y k1 k2:Nat} (hv:IntV w v n1 x k1) (hu:IntV w u n2 y k2) (hr:k1+k2<=1759218604441):
  Calls Tryz.prog 160 #[v,u] w (RetIZ w (sgn n1 x+sgn n2 y) (k1+k2+1)):=by
 by_cases hn:n1=n2
 ·subst hn;exact iAdd_same hv hu hr
 ·exact iAdd_diff hv hu hn hr
theorem iOf (w:World) (x:Int) (h1: -9223372036854775808<=x) (h2:x<=9223372036854775807):
  Calls Tryz.prog 87 #[.int .i64 x] w (RetIZ w x 2):=by
 have hR:=Box2.alloc w (.bool false) (.slice none 0 0) 89;have hN:=NoInt.alloc w #[.bool false,.slice none 0 0] 89 (by simp);obtain ⟨HR,HN⟩:=hd2 hR hN;have hB0:=blA w (.cells #[.bool false,.slice none 0 0] 89);have HB:=hid hB0;clear hR hN hB0
 by_cases hx:x < 0
 ·have hO:=fun wv=>nOf x.natAbs (by omega) wv
  rw [<- neg_u64 h1 hx] at hO;have HO:=hid hO;have HX:Hid (sgn true x.natAbs=x):=by unfold Hid sgn;simp;omega
  have hlen:=limbs_len64 (n:=x.natAbs) (by omega);have q1:decide (x < 0)=true:=decide_eq_true hx;clear hO
  go_enter Tryz.func87,Tryz.ntmps87
  go_upto_region 1 with fail
  generalize w.alloc (.cells #[.bool false,.slice none 0 0] 89)=W at *
  go_wp2_with fail
  refine (HO.out _).mono ?_
  rintro e w1 ⟨a1,c1,rfl,k1,k2,hb1⟩;obtain ⟨t0,t1,tf,tlt⟩:=HR.out.below hb1;obtain ⟨HI,HBf⟩:=hd2 (IntV.store2 (b:=true) (HN.out.below hb1 HR.out.lt) k1 k2 (lval_limbs _) hlen) (below_store2 (p:=.bool true) (q:=.slice a1 (limbs x.natAbs).length c1) (HB.out.trans (hb1.mono HB.out.size)) (Nat.le_refl _));clear k2 hb1;generalize limbs x.natAbs=L at *;go_wp2;exact bodyPost_ret (v:=.agg #[.bool true,.slice a1 L.length c1]) (by simp [results,Tryz.results87,go_sem,t0,t1]) rfl ⟨_,true,_,rfl,HI.out,HX.out,HBf.out⟩
 ·obtain ⟨n,rfl⟩:∃ n:Nat,x=(n:Int):=⟨x.toNat,by omega⟩
  have HO:=hid (fun wv=>nOf n (by omega) wv);have HX:Hid (sgn false n=(n:Int)):=rfl;have hlen:=limbs_len64 (n:=n) (by omega);have q1:decide ((n:Int) < 0)=false:=decide_eq_false hx
  go_enter Tryz.func87,Tryz.ntmps87
  go_upto_region 1 with fail
  generalize w.alloc (.cells #[.bool false,.slice none 0 0] 89)=W at *
  go_wp2_with fail
  refine (HO.out _).mono ?_
  rintro e w1 ⟨a1,c1,rfl,k1,k2,hb1⟩;obtain ⟨t0,t1,tf,tlt⟩:=HR.out.below hb1;obtain ⟨HI,HBf⟩:=hd2 (IntV.store2 (b:=false) (HN.out.below hb1 HR.out.lt) k1 k2 (lval_limbs _) hlen) (below_store2 (p:=.bool false) (q:=.slice a1 (limbs n).length c1) (HB.out.trans (hb1.mono HB.out.size)) (Nat.le_refl _));clear k2 hb1;generalize limbs n=L at *;go_wp2;exact bodyPost_ret (v:=.agg #[.bool false,.slice a1 L.length c1]) (by simp [results,Tryz.results87,go_sem,t0,t1]) rfl ⟨_,false,_,rfl,HI.out,HX.out,HBf.out⟩
theorem rMul {w:World} {v u:Value} {x y:RatL} (hv:RatV w v x) (hu:RatV w u y) (hx:RatLe x 1048575) (hy:RatLe y 1048575):
  Calls Tryz.prog 134 #[v,u] w (RetR w (ratL (ratOf x * ratOf y))):=by
 obtain ⟨HV,HU⟩:=hd2 hv hu;obtain ⟨an,ad,cn,cd,rfl,a2,a3,a4,a5⟩:=hv.ex;obtain ⟨bn,bd,dn,dd,rfl,b2,b3,b4,b5⟩:=hu.ex;have hQ:Hid (ratL (ratOf x * ratOf y)=quotN (x.neg != y.neg) (lval x.num * lval y.num) (underN x.den * underN y.den)):=by
  unfold Hid;rw [quotN_ratL _ _ (Nat.mul_pos (underN_pos _) (underN_pos _)),mulQ];rfl
 obtain ⟨hx1,hx2⟩:=hx;obtain ⟨hy1,hy2⟩:=hy;have hl1:=a4.len;have hl2:=a5.len;have hl3:=b4.len;have hl4:=b5.len;obtain ⟨A4,B4⟩:=hd2 a4 b4;have hml:(limbs (lval x.num * lval y.num)).length<=1099511627776:=Nat.le_trans (mul_len rfl rfl hx1 hy1 a4.lim b4.lim) (by omega);have hdp:0 < underN x.den * underN y.den:=Nat.mul_pos (underN_pos _) (underN_pos _);have HDp:=hid hdp;have hxd:x.den.length<=17592186044416:=by omega
 have hyd:y.den.length<=17592186044416:=by omega
 clear hv hu a4 a5 b4 b5 hdp
 go_enter Tryz.func134,Tryz.ntmps134
 go_wp2_with fail
 have hF:=TwoR.mk' w (.bool x.neg) (.slice an x.num.length cn) (.slice ad x.den.length cd) (.bool y.neg) (.slice bn y.num.length dn) (.slice bd y.den.length dd) 51;generalize ((w.alloc (ratO x an cn ad cd 51)).alloc (ratO y bn dn bd dd 51)).alloc (zerO 51)=W at *;obtain ⟨HF,HA4,HB4,HVW,HUW⟩:=hd5 hF (A4.out.below hF.bl) (B4.out.below hF.bl) (HV.out.below hF.bl) (HU.out.below hF.bl);have xbl:Below W.heap.size W W.drew:=(Below.refl _ _).drew;have tok1:True:=trivial;have tok2:True:=trivial;clear hF A4 B4 HV HU
 go_region_held3 (fun w'=>w'.cell? ⟨w.heap.size,0,none⟩=some (.bool x.neg)/\w'.cell? ⟨w.heap.size,1,none⟩=some (.slice an x.num.length cn)/\w'.cell? ⟨w.heap.size,2,none⟩=some (.slice ad x.den.length cd)/\
   w'.cell? ⟨w.heap.size+1,0,none⟩=some (.bool y.neg)/\w'.cell? ⟨w.heap.size+1,1,none⟩=some (.slice bn y.num.length dn)/\w'.cell? ⟨w.heap.size+1,2,none⟩=some (.slice bd y.den.length dd))
  (first | exact S33_keep HF.out.a HF.out.b HF.out.a.lt HF.out.b.lt ‹Below W.heap.size W _› | exact S33_keep (B:=w.heap.size+1+1) HF.out.a HF.out.b (Nat.lt_succ_of_lt (Nat.lt_succ_self _)) (Nat.lt_succ_self _) (below_store3 (hS5.mono (Nat.le_of_lt HF.out.c.lt)) (Nat.le_refl _) _ _ _))
  (first
   | (go_at_call 161; have _t := tok1; clear tok1; have hS := ‹Below W.heap.size W _›; refine (nMul cn dn a2 b2 (HA4.out.below hS) (HB4.out.below hS) rfl rfl (by omega)).mono ?_; rintro e w1 ⟨a1, c1, rfl, g1, g2, g3⟩
      have hS1:=hS.trans (g3.mono hS.size);have G2:=hid g2;clear g2)
   | (go_at_call 150; have _t := tok2; clear tok2; have hS := ‹Below W.heap.size W _›; refine (rUnder (HVW.out.below hS) hxd).mono ?_; rintro e w2 ⟨a2', c2, l2, rfl, p1, p2, p3, p4, p5⟩
      have hS2:=hS.trans (p5.mono hS.size);have G2b:=hid (G2.out.below p5);have P2:=hid p2;have P3:=hid p3;clear p2 p3)
   | (go_at_call 150; have hS := ‹Below W.heap.size W _›; refine (rUnder (HUW.out.below hS) hyd).mono ?_; rintro e w3 ⟨a3', c3, l3, rfl, q1, q2, q3, q4, q5⟩
      have hS3:=hS.trans (q5.mono hS.size);have G2c:=hid (G2b.out.below q5);have P2b:=hid (P2.out.below q5);have Q2:=hid q2;have Q3:=hid q3;clear q2 q3)
   | (go_at_call 161; have hS := ‹Below W.heap.size W _›; refine (nMul c2 c3 p1 q1 P2b.out Q2.out P3.out Q3.out (by omega)).mono ?_; rintro e w4 ⟨a4, c4, rfl, t1, t2, t3⟩
      have hS4:=hS.trans (t3.mono hS.size);have G2d:=hid (G2c.out.below t3);have T2:=hid t2;clear t2;have hdl:(limbs (underN x.den * underN y.den)).length<=1099511627776:=Nat.le_trans (mul_len P3.out Q3.out p4 q4 P2b.out.lim Q2.out.lim) (by omega))
   | (go_at_call 128; have hS := ‹Below W.heap.size W _›; refine (rQuot (x.neg != y.neg) c1 c4 g1 t1 G2d.out T2.out (lval_limbs _) (lval_limbs _) hml hdl HDp.out).mono ?_
      rintro e w5 ⟨v5,rfl,⟨bn',bd',m1,m2,rfl,k3,k4,k5,k6⟩,k2⟩;have hS5:=hS.trans (k2.mono hS.size);obtain ⟨r0,r1,r2,rf,rlt⟩:=HF.out.c.below hS5;obtain ⟨hN5,K5,K6⟩:=hd3 (HF.out.nc.below hS5 HF.out.c.lt) k5 k6;have hB5:=hid (HF.out.bl.trans (hS5.mono (by have:=HF.out.a.lt;omega)))))
 generalize quotN (x.neg != y.neg) (lval x.num * lval y.num) (underN x.den * underN y.den)=R at *;go_wp2;exact bodyPost_ret (v:=.agg #[.bool R.neg,.slice bn' R.num.length m1,.slice bd' R.den.length m2]) (by simp [results,Tryz.results134,go_sem,r0,r1,r2]) rfl ⟨_,rfl,by rw [hQ.out];exact RatV.store hN5.out k3 k4 K5.out K6.out,below_store3 hB5.out (by omega) _ _ _⟩
theorem S8_keep {B:Nat} {W w1:World} {g h:Nat} {p q r s t u b c:Value} (ha:Box3 W g p q r) (hb:Box3 W (g+1) s t u) (hi:Box2 W h b c) (h1:g < B) (h2:g+1 < B) (hl:Below B W w1) (hk:∀ o,w1.cell? ⟨h,o,none⟩=W.cell? ⟨h,o,none⟩):
  w1.cell? ⟨g,0,none⟩=some p/\w1.cell? ⟨g,1,none⟩=some q/\w1.cell? ⟨g,2,none⟩=some r/\w1.cell? ⟨g+1,0,none⟩=some s/\w1.cell? ⟨g+1,1,none⟩=some t/\w1.cell? ⟨g+1,2,none⟩=some u/\w1.cell? ⟨h,0,none⟩=some b/\w1.cell? ⟨h,1,none⟩=some c:=
 ⟨(hl.cell (p:=⟨g,0,none⟩) h1).trans ha.c0,(hl.cell (p:=⟨g,1,none⟩) h1).trans ha.c1,(hl.cell (p:=⟨g,2,none⟩) h1).trans ha.c2,(hl.cell (p:=⟨g+1,0,none⟩) h2).trans hb.c0,(hl.cell (p:=⟨g+1,1,none⟩) h2).trans hb.c1,(hl.cell (p:=⟨g+1,2,none⟩) h2).trans hb.c2,(hk 0).trans hi.c0,(hk 1).trans hi.c1⟩
theorem far3 {w:World} {g h:Nat} (hne:g ≠ h) (p q r:Value) (o:Nat):(((w.setCell ⟨g,0,none⟩ p).setCell ⟨g,1,none⟩ q).setCell ⟨g,2,none⟩ r).cell? ⟨h,o,none⟩=w.cell? ⟨h,o,none⟩:=(far2 hne).trans ((far2 hne).trans (far2 hne))
theorem rAdd {w:World} {v u:Value} {x y:RatL} (hv:RatV w v x) (hu:RatV w u y) (hx:RatLe x 1048575) (hy:RatLe y 1048575):
  Calls Tryz.prog 133 #[v,u] w (RetR w (ratL (ratOf x+ratOf y))):=by
 obtain ⟨HV,HU⟩:=hd2 hv hu;obtain ⟨an,ad,cn,cd,rfl,a2,a3,a4,a5⟩:=hv.ex;obtain ⟨bn,bd,dn,dd,rfl,b2,b3,b4,b5⟩:=hu.ex;obtain ⟨hx1,hx2⟩:=hx;obtain ⟨hy1,hy2⟩:=hy;have hdp:0 < underN x.den * underN y.den:=Nat.mul_pos (underN_pos _) (underN_pos _);have HDp:=hid hdp;have hxd:x.den.length<=17592186044416:=by omega
 have hyd:y.den.length<=17592186044416:=by omega
 clear hv hu a4 a5 b4 b5 hdp
 go_enter Tryz.func133,Tryz.ntmps133
 go_wp2_with fail
 have hF:=TwoR.mk' w (.bool x.neg) (.slice an x.num.length cn) (.slice ad x.den.length cd) (.bool y.neg) (.slice bn y.num.length dn) (.slice bd y.den.length dd) 51;generalize ((w.alloc (ratO x an cn ad cd 51)).alloc (ratO y bn dn bd dd 51)).alloc (zerO 51)=W at *;obtain ⟨HF,HVW,HUW⟩:=hd3 hF (HV.out.below hF.bl) (HU.out.below hF.bl);have HX:=hid (rCross HVW.out HUW.out (by omega) (by omega) (by omega) (by omega));clear hF HV HU
 refine HX.out.mono ?_
 rintro e w1 ⟨v1,v2,n1,n2,rfl,i1,i2,e1,e2,hb1⟩;obtain ⟨pa,pc,pl,rfl,q1,q2,q3,q4⟩:=i1.ex;obtain ⟨sa,sc,sl,rfl,t1,t2,t3,t4⟩:=i2.ex;obtain ⟨HB1,Q2,Q3,T2,T3⟩:=hd5 hb1 q2 q3 t2 t3;clear i1 i2 hb1 q2 q3 t2 t3 HX
 go_upto_region 2 with fail
 have hb12:Below w1.heap.size w1 ((w1.alloc (.cells #[.bool n1,.slice pa pl.length pc] 89)).alloc (.cells #[.bool n2,.slice sa sl.length sc] 89)):=((Below.refl _ _).alloc (Nat.le_refl _) _).alloc (by simp) _;have HP:=hid ((Box2.alloc w1 (.bool n1) (.slice pa pl.length pc) 89).below ((Below.refl _ _).alloc (Nat.le_refl _) (.cells #[.bool n2,.slice sa sl.length sc] 89)));have hS:=Box2.alloc (w1.alloc (.cells #[.bool n1,.slice pa pl.length pc] 89)) (.bool n2) (.slice sa sl.length sc) 89;simp only [World.size_alloc] at hS;have HS:=hid hS;clear hS;generalize (w1.alloc (.cells #[.bool n1,.slice pa pl.length pc] 89)).alloc (.cells #[.bool n2,.slice sa sl.length sc] 89)=W2 at *;have HB2:=htr HB1 hb12;have hI1:IntV W2 (.agg #[.bool n1,.slice pa pl.length pc]) n1 (lval x.num * underN y.den) (x.num.length+y.den.length+1):=⟨pa,pc,pl,rfl,q1,Q2.out.below hb12,Q3.out,q4⟩
 have hI2:IntV W2 (.agg #[.bool n2,.slice sa sl.length sc]) n2 (lval y.num * underN x.den) (y.num.length+x.den.length+1):=⟨sa,sc,sl,rfl,t1,T2.out.below hb12,T3.out,t4⟩
 have hAd:=iAdd hI1 hI2 (by omega);rw [e1,e2] at hAd;have HAd:=hid hAd;obtain ⟨x0,x1,_,xlt⟩:=HP.out;obtain ⟨y0,y1,_,ylt⟩:=HS.out;clear hI1 hI2 hAd e1 e2 hb12 Q2 Q3 T2 T3
 go_wp2_with fail
 refine HAd.out.mono ?_
 rintro e w3 ⟨v3,n3,m3,rfl,i3,e3,hb3⟩;obtain ⟨ra,rc,rl,rfl,o1,o2,o3,o4⟩:=i3.ex;have hb4:=blA w3 (.cells #[.bool n3,.slice ra rl.length rc] 89);obtain ⟨HH,HB4,HO2,HO3⟩:=hd4 (Box2.alloc w3 (.bool n3) (.slice ra rl.length rc) 89) (HB2.out.trans ((hb3.trans (hb4.mono hb3.size)).mono HB2.out.size)) (o2.below hb4) o3;have hE3:Hid (quotN n3 m3 (underN x.den * underN y.den)=ratL (ratOf x+ratOf y)):=by
  unfold Hid;rw [quotN_ratL _ _ HDp.out,e3]
  congr 1
  exact addQ _ _ _ _ (underN_pos _) (underN_pos _)
 have hgr:w.heap.size+1+1 < w3.heap.size:=Nat.lt_of_lt_of_le HF.out.c.lt (Nat.le_trans HB2.out.size hb3.size);have ho4:rl.length<=1099511627776:=by omega
 clear i3 e3 hb3 hb4 o2 o3 HAd x0 x1 xlt y0 y1 ylt HB1 HB2 HP HS
 go_upto_region 3 with fail
 obtain ⟨h,hh⟩:∃ h,h=w3.heap.size:=⟨_,rfl⟩
 rw [<- hh] at HH hgr ⊢;generalize w3.alloc (.cells #[.bool n3,.slice ra rl.length rc] 89)=W4 at *;obtain ⟨HVx,HUx,HF4⟩:=hd3 (HVW.out.below HB4.out) (HUW.out.below HB4.out) (HF.out.below HB4.out);have hne:w.heap.size+1+1 ≠ h:=by omega
 have xbl:Below W4.heap.size W4 W4.drew:=(Below.refl _ _).drew;have tok1:True:=trivial;clear hh hgr HVW HUW HF HB4;generalize ratL (ratOf x+ratOf y)=R at *
 go_region_held3 (fun w'=>w'.cell? ⟨w.heap.size,0,none⟩=some (.bool x.neg)/\w'.cell? ⟨w.heap.size,1,none⟩=some (.slice an x.num.length cn)/\w'.cell? ⟨w.heap.size,2,none⟩=some (.slice ad x.den.length cd)/\
   w'.cell? ⟨w.heap.size+1,0,none⟩=some (.bool y.neg)/\w'.cell? ⟨w.heap.size+1,1,none⟩=some (.slice bn y.num.length dn)/\w'.cell? ⟨w.heap.size+1,2,none⟩=some (.slice bd y.den.length dd)/\w'.cell? ⟨h,0,none⟩=some (.bool n3)/\w'.cell? ⟨h,1,none⟩=some (.slice ra rl.length rc))
  (first | exact S8_keep HF4.out.a HF4.out.b HH.out HF4.out.a.lt HF4.out.b.lt ‹Below W4.heap.size W4 _› (fun o=>(‹Below W4.heap.size W4 _›).cell (p:=⟨h,o,none⟩) HH.out.lt) | exact S8_keep (B:=w.heap.size+1+1) HF4.out.a HF4.out.b HH.out (Nat.lt_succ_of_lt (Nat.lt_succ_self _)) (Nat.lt_succ_self _) (below_store3 (hS5.mono (Nat.le_of_lt HF4.out.c.lt)) (Nat.le_refl _) _ _ _) (fun o=>(far3 hne _ _ _ o).trans (hS5.cell (p:=⟨h,o,none⟩) HH.out.lt)))
  (first
   | (go_at_call 150; have _t := tok1; clear tok1; have hS := ‹Below W4.heap.size W4 _›; refine (rUnder (HVx.out.below hS) hxd).mono ?_; rintro e w5 ⟨a2', c2, l2, rfl, p1, p2, p3, p4, p5⟩
      have hS2:=hS.trans (p5.mono hS.size);have P2:=hid p2;have P3:=hid p3;clear p2 p3)
   | (go_at_call 150; have hS := ‹Below W4.heap.size W4 _›; refine (rUnder (HUx.out.below hS) hyd).mono ?_; rintro e w6 ⟨a3', c3, l3, rfl, q1', q2', q3', q4', q5'⟩
      have hS3:=hS.trans (q5'.mono hS.size);have P2b:=hid (P2.out.below q5');have Q2':=hid q2';have Q3':=hid q3';clear q2' q3')
   | (go_at_call 161; have hS := ‹Below W4.heap.size W4 _›; refine (nMul c2 c3 p1 q1' P2b.out Q2'.out P3.out Q3'.out (by omega)).mono ?_; rintro e w7 ⟨a4, c4, rfl, z1, z2, z3⟩
      have hS4:=hS.trans (z3.mono hS.size);have Z2:=hid z2;clear z2;have hdl:(limbs (underN x.den * underN y.den)).length<=1099511627776:=Nat.le_trans (mul_len P3.out Q3'.out p4 q4' P2b.out.lim Q2'.out.lim) (by omega))
   | (go_at_call 128; have hS := ‹Below W4.heap.size W4 _›; refine (rQuot n3 rc c4 o1 z1 (HO2.out.below hS) Z2.out HO3.out (lval_limbs _) ho4 hdl HDp.out).mono ?_; rw [hE3.out]
      rintro e w8 ⟨v5,rfl,⟨bn',bd',m1,m2,rfl,k3,k4,k5,k6⟩,k2⟩;have hS5:=hS.trans (k2.mono hS.size);obtain ⟨r0,r1,r2,rf,rlt⟩:=HF4.out.c.below hS5;obtain ⟨hN5,K5,K6⟩:=hd3 (HF4.out.nc.below hS5 HF4.out.c.lt) k5 k6;have hB5:=hid (HF4.out.bl.trans (hS5.mono (by have:=HF4.out.a.lt;omega)))))
 go_wp2;exact bodyPost_ret (v:=.agg #[.bool R.neg,.slice bn' R.num.length m1,.slice bd' R.den.length m2]) (by simp [results,Tryz.results133,go_sem,r0,r1,r2]) rfl ⟨_,rfl,RatV.store hN5.out k3 k4 K5.out K6.out,below_store3 hB5.out (by omega) _ _ _⟩
structure IntR (w W:World) (g:Nat) (p q:Value):Prop where
 a:Box2 W g p q
 c:Box3 W (g+1) (.bool false) (.slice none 0 0) (.slice none 0 0)
 nc:NoInt W (g+1)
 bl:Below g w W
theorem IntR.mk' (w:World) (p q:Value) (T T':Nat):IntR w ((w.alloc (.cells #[p,q] T)).alloc (.cells #[.bool false,.slice none 0 0,.slice none 0 0] T')) w.heap.size p q:=by
 have step:∀ (W:World) (o:Obj),Below W.heap.size W (W.alloc o):=fun W o=>(Below.refl _ _).alloc (Nat.le_refl _) _
 have s1:=step w (.cells #[p,q] T);have s3:=step (w.alloc (.cells #[p,q] T)) (.cells #[.bool false,.slice none 0 0,.slice none 0 0] T');have b1:=Box2.alloc w p q T;have b3:=Box3.alloc (w.alloc (.cells #[p,q] T)) (.bool false) (.slice none 0 0) (.slice none 0 0) T';have n3:=NoInt.alloc (w.alloc (.cells #[p,q] T)) #[.bool false,.slice none 0 0,.slice none 0 0] T' (by simp);have b1':=b1.below s3;have bl:=s1.trans (s3.mono (by simp));simp only [World.size_alloc] at b3 n3;exact ⟨b1',b3,n3,bl⟩
theorem S2_keep {W w1:World} {g:Nat} {p q:Value} {B:Nat} (ha:Box2 W g p q) (h1:g < B) (hl:Below B W w1):w1.cell? ⟨g,0,none⟩=some p/\w1.cell? ⟨g,1,none⟩=some q:=
 ⟨(hl.cell (p:=⟨g,0,none⟩) h1).trans ha.c0,(hl.cell (p:=⟨g,1,none⟩) h1).trans ha.c1⟩
theorem quotN_oneI (neg:Bool) (n:Nat):quotN neg n 1=ratL ((sgn neg n:Int):Rat):=by
 rw [quotN_ratL _ _ (by decide),Rat.mkRat_one]
theorem rWhole {w:World} {v:Value} {neg:Bool} {n k:Nat} (hv:IntV w v neg n k) (hr:k<=1099511627776):
  Calls Tryz.prog 86 #[v] w (RetR w (ratL ((sgn neg n:Int):Rat))):=by
 obtain ⟨a,c,l,rfl,h1,h2,h3,h4⟩:=hv.ex;obtain ⟨H2,H3,hQ⟩:=hd3 h2 h3 (quotN_oneI neg n);have hlr:l.length<=1099511627776:=by omega
 clear hv h2 h3
 go_enter Tryz.func86,Tryz.ntmps86
 go_wp2_with fail
 have hF:=IntR.mk' w (.bool neg) (.slice a l.length c) 89 51;generalize (w.alloc (.cells #[.bool neg,.slice a l.length c] 89)).alloc (zerO 51)=W at *;obtain ⟨HF,HU⟩:=hd2 hF (H2.out.below hF.bl);have xbl:Below W.heap.size W W.drew:=(Below.refl _ _).drew;clear hF H2;generalize ratL ((sgn neg n:Int):Rat)=R at *
 go_region_held3 (fun w'=>w'.cell? ⟨w.heap.size,0,none⟩=some (.bool neg)/\w'.cell? ⟨w.heap.size,1,none⟩=some (.slice a l.length c))
  (first | exact S2_keep HF.out.a HF.out.a.lt ‹Below W.heap.size W _› | exact S2_keep (B:=w.heap.size+1) HF.out.a (Nat.lt_succ_self _) (below_store3 (hS2.mono (Nat.le_of_lt HF.out.c.lt)) (Nat.le_refl _) _ _ _))
  (first
   | (go_at_call 129; have hS := ‹Below W.heap.size W _›; refine (rOne _).mono ?_; rintro e w1 ⟨⟨a1, rfl, p2⟩, p3⟩
      have hS1:=hS.trans (p3.mono hS.size);have P2:=hid p2;clear p2)
   | (go_at_call 128; have hS := ‹Below W.heap.size W _›; refine (rQuot (m := [1]) neg c 1 h1 (Nat.le_refl _) (HU.out.below hS) P2.out H3.out (show lval [1] = 1 from rfl) hlr (by simp) (by decide)).mono ?_; rw [hQ.out]
      rintro e w2 ⟨v5,rfl,⟨bn',bd',m1,m2,rfl,k3,k4,k5,k6⟩,k2⟩;have hS2:=hS.trans (k2.mono hS.size);obtain ⟨r0,r1,r2,rf,rlt⟩:=HF.out.c.below hS2;obtain ⟨hN5,K5,K6⟩:=hd3 (HF.out.nc.below hS2 HF.out.c.lt) k5 k6;have hB5:=hid (HF.out.bl.trans (hS2.mono (by have:=HF.out.a.lt;omega)))))
 go_wp2;exact bodyPost_ret (v:=.agg #[.bool R.neg,.slice bn' R.num.length m1,.slice bd' R.den.length m2]) (by simp [results,Tryz.results86,go_sem,r0,r1,r2]) rfl ⟨_,rfl,RatV.store hN5.out k3 k4 K5.out K6.out,below_store3 hB5.out (by omega) _ _ _⟩
theorem rOf (w:World) (x:Int) (h1: -9223372036854775808<=x) (h2:x<=9223372036854775807):
  Calls Tryz.prog 54 #[.int .i64 x] w (RetR w (ratL (x:Rat))):=by
 have hR:=Box3.alloc w (.bool false) (.slice none 0 0) (.slice none 0 0) 51;have hN:=NoInt.alloc w #[.bool false,.slice none 0 0,.slice none 0 0] 51 (by simp);have hB0:=blA w (zerO 51);obtain ⟨HO,HR,HN,HB⟩:=hd4 (fun wv=>iOf wv x h1 h2) hR hN hB0;clear hR hN hB0
 go_enter Tryz.func54,Tryz.ntmps54
 go_upto_region 1 with fail
 generalize w.alloc (zerO 51)=W at *
 go_wp2_with fail
 refine (HO.out _).mono ?_
 rintro e w1 ⟨v1,s1,m1,rfl,i1,e1,hb⟩;have hW:=rWhole i1 (by decide);rw [e1] at hW;obtain ⟨HW,HR2,HN2⟩:=hd3 hW (HR.out.below hb) (HN.out.below hb HR.out.lt);have HB2:=htr HB hb;clear HO hb HR HN HB hW i1 e1;generalize ratL (x:Rat)=R at *
 go_wp2_with fail
 refine HW.out.mono ?_
 rintro e w2 ⟨v2,rfl,⟨bn',bd',m1,m2,rfl,k3,k4,k5,k6⟩,k2⟩;obtain ⟨r0,r1,r2,rf,rlt⟩:=HR2.out.below k2;obtain ⟨hN5,K5,K6⟩:=hd3 (HN2.out.below k2 HR2.out.lt) k5 k6;have hB5:=htr HB2 k2;clear HW k5 k6 k2;go_wp2;exact bodyPost_ret (v:=.agg #[.bool R.neg,.slice bn' R.num.length m1,.slice bd' R.den.length m2]) (by simp [results,Tryz.results54,go_sem,r0,r1,r2]) rfl ⟨_,rfl,RatV.store hN5.out k3 k4 K5.out K6.out,below_store3 hB5.out (Nat.le_refl _) _ _ _⟩
def maxQ (p q:Rat):Rat:=if q<=p then p else q
def termQ (ws:List Rat) (off:Nat) (ix:List Int) (x:List Rat) (k:Nat):Rat:=if 0<=ix.getD k 0 then ws.getD (off+k) 0 * x.getD (ix.getD k 0).toNat 0 else 0
def psum (b:Rat) (ws:List Rat) (off:Nat) (ix:List Int) (x:List Rat):Nat->Rat
 | 0=>b
 | k+1=>psum b ws off ix x k+termQ ws off ix x k
def sumQ (b:Rat) (ws:List Rat) (off:Nat) (ix:List Int) (x:List Rat):Rat:=psum b ws off ix x ix.length
def valsQ (ix:List Int) (x:List Rat):List Rat:=ix.map fun i=>x.getD i.toNat 0
def pmax (l:List Rat):Nat->Rat
 | 0=>l.getD 0 0
 | k+1=>maxQ (pmax l k) (l.getD (k+1) 0)
def padd (l:List Rat):Nat->Rat
 | 0=>l.getD 0 0
 | k+1=>padd l k+l.getD (k+1) 0
def maxL (l:List Rat):Rat:=pmax l (l.length - 1)
def avgL (l:List Rat):Rat:=padd l (l.length - 1) / ((l.length:Int):Rat)
end Go.Proofs.YtfgmmghmmfmdgaaGreat
