/-
  Contracts of the functions that the statement reaches: RatC, RatD, IntA, IntB, IntC, RatE, RatF, KerA, KerB, KerC, KerD, KerE, KerF, KerG, ModA.
-/
import Derived.Test.YtfgmmghmmfmdgaaGreatK6
import Derived.Deep.RegionHeld3
set_option linter.all false
set_option maxRecDepth 100000
set_option maxHeartbeats 3200000
namespace Go.Proofs.YtfgmmghmmfmdgaaGreat
open Go.RowKit
open Go.Lib (hid)
structure Box3 (w:World) (g:Nat) (p q r:Value):Prop where
 c0:w.cell? ⟨g,0,none⟩=some p
 c1:w.cell? ⟨g,1,none⟩=some q
 c2:w.cell? ⟨g,2,none⟩=some r
 free:∀ o,w.frozen? ⟨g,o,none⟩=false
 lt:g < w.heap.size
theorem Box3.below {w w':World} {g:Nat} {p q r:Value} (h:Box3 w g p q r) (hb:Below w.heap.size w w'):Box3 w' g p q r:=
 ⟨(hb.cell h.lt).trans h.c0,(hb.cell h.lt).trans h.c1,(hb.cell h.lt).trans h.c2,fun o=>(hb.frozen h.lt).trans (h.free o),Nat.lt_of_lt_of_le h.lt hb.size⟩
theorem Box3.alloc (w:World) (p q r:Value) (T:Nat):Box3 (w.alloc (.cells #[p,q,r] T)) w.heap.size p q r:=
 ⟨by rw [World.cell?_alloc_at _ _ _ _ rfl];rfl,by rw [World.cell?_alloc_at _ _ _ _ rfl];rfl,by rw [World.cell?_alloc_at _ _ _ _ rfl];rfl,fun o=>World.frozen?_alloc_new _ _ _ _,by simp⟩
theorem S3_keep {W w1:World} {g:Nat} {p q r:Value} (h0:W.cell? ⟨g,0,none⟩=some p) (h1:W.cell? ⟨g,1,none⟩=some q) (h2:W.cell? ⟨g,2,none⟩=some r) (hlt:g < W.heap.size) (hb:Below W.heap.size W w1):
  w1.cell? ⟨g,0,none⟩=some p/\w1.cell? ⟨g,1,none⟩=some q/\w1.cell? ⟨g,2,none⟩=some r:=
 ⟨(hb.cell hlt).trans h0,(hb.cell hlt).trans h1,(hb.cell hlt).trans h2⟩
theorem rCanon {w:World} {v:Value} {x:RatL} (h:RatV w v x) (hr:x.num.length<=1099511627776) (hr2:x.den.length < 1099511627776):Calls Tryz.prog 121 #[v] w (RetR w (canonL x)):=by
 obtain ⟨an,ad,cn,cd,hv,h2,h3,h4,h5⟩:=h.ex;have hl1:=h4.len;have hl2:=h5.len;obtain ⟨HV,H4,HVe⟩:=hd3 h h4 hv;rw [hv];clear h h4 h5 hv
 go_enter Tryz.func121,Tryz.ntmps121
 go_wp2_with fail
 have hB0:Below w.heap.size w ((w.alloc (ratO x an cn ad cd 51)).alloc (zerO 51)):=
  ((Below.refl _ _).alloc (Nat.le_refl _) _).alloc (by simp) _
 have hX:Box3 ((w.alloc (ratO x an cn ad cd 51)).alloc (zerO 51)) w.heap.size (.bool x.neg) (.slice an x.num.length cn) (.slice ad x.den.length cd):=
  (Box3.alloc w _ _ _ _).below ((Below.refl _ _).alloc (Nat.le_refl _) _)
 have hR:Box3 ((w.alloc (ratO x an cn ad cd 51)).alloc (zerO 51)) (w.heap.size+1) (.bool false) (.slice none 0 0) (.slice none 0 0):=by
  have:=Box3.alloc (w.alloc (ratO x an cn ad cd 51)) (.bool false) (.slice none 0 0) (.slice none 0 0) 51
  simpa using this
 have hN:NoInt ((w.alloc (ratO x an cn ad cd 51)).alloc (zerO 51)) (w.heap.size+1):=by
  have:=NoInt.alloc (w.alloc (ratO x an cn ad cd 51)) #[.bool false,.slice none 0 0,.slice none 0 0] 51 (by simp)
  simpa using this
 generalize (w.alloc (ratO x an cn ad cd 51)).alloc (zerO 51)=W at *;obtain ⟨HV2,H42⟩:=hd2 (HV.out.below hB0) (H4.out.below hB0);rw [HVe.out] at HV2;obtain ⟨x0,x1,x2,xf,xlt⟩:=hX;obtain ⟨HR,HNo,HB⟩:=hd3 hR hN hB0;have xbl:Below W.heap.size W W.drew:=(Below.refl _ _).drew;clear hR hN hB0 xf HV HVe H4
 go_region_held3 (fun w'=>w'.cell? ⟨w.heap.size,0,none⟩=some (.bool x.neg)/\w'.cell? ⟨w.heap.size,1,none⟩=some (.slice an x.num.length cn)/\w'.cell? ⟨w.heap.size,2,none⟩=some (.slice ad x.den.length cd))
  (first | exact S3_keep x0 x1 x2 xlt ‹Below W.heap.size W _› | go_keep)
  (first
   | (go_at_call 150; have hS := ‹Below W.heap.size W _›; refine (rUnder (HV2.out.below hS) (by show x.den.length <= _; omega)).mono ?_; rintro e w1 ⟨a1, c1, l1, rfl, g1, g2, g3, g4, g5⟩
      have hS1:=hS.trans (g5.mono hS.size))
   | (go_at_call 128; have hS := ‹Below W.heap.size W _›; refine (rQuot x.neg cn c1 h2 g1 (H42.out.below hS) g2 rfl g3 hr (by omega) (underN_pos _)).mono ?_
      rintro e w2 ⟨v2,rfl,⟨bn,bd,m1,m2,rfl,k3,k4,k5,k6⟩,k2⟩;have hS2:=hS.trans (k2.mono hS.size);obtain ⟨r0,r1,r2,rf,rlt⟩:=HR.out.below hS2;obtain ⟨hN2,K5,K6⟩:=hd3 (HNo.out.below hS2 HR.out.lt) k5 k6;have hB2:=htr HB hS2))
 go_wp2;have hbf:=(((hB2.out.setCell (p:=⟨w.heap.size+1,0,none⟩) (Nat.le_succ _) (.bool (canonL x).neg)).setCell (p:=⟨w.heap.size+1,1,none⟩) (Nat.le_succ _) (.slice bn (canonL x).num.length m1)).setCell (p:=⟨w.heap.size+1,2,none⟩) (Nat.le_succ _) (.slice bd (canonL x).den.length m2))
 refine bodyPost_ret (v:=.agg #[.bool (canonL x).neg,.slice bn (canonL x).num.length m1,.slice bd (canonL x).den.length m2]) (by simp [results,Tryz.results121,go_sem,r0,r1,r2,canonL]) rfl ⟨_,rfl,⟨bn,bd,m1,m2,rfl,k3,k4,?_,?_⟩,hbf⟩
 ·exact ((K5.out.setCell hN2.out _ _).setCell (hN2.out.setCell _ _ (by simp)) _ _).setCell ((hN2.out.setCell _ _ (by simp)).setCell _ _ (by simp)) _ _
 ·exact ((K6.out.setCell hN2.out _ _).setCell (hN2.out.setCell _ _ (by simp)) _ _).setCell ((hN2.out.setCell _ _ (by simp)).setCell _ _ (by simp)) _ _
theorem rValid_none {w:World} {v:Value} {x:RatL} (h:RatV w v x) (hd:x.den=[]):Calls Tryz.prog 83 #[v] w fun e w'=>e=.returned (.bool (validR x))/\Below w.heap.size w w':=by
 obtain ⟨an,ad,cn,cd,rfl,h2,h3,h4,h5⟩:=h.ex;have hR:=valid_none h.lim hd;have hl:=h4.len;rw [hd] at *;have hB0:=blA w (.cells #[.bool x.neg,.slice an x.num.length cn,.slice ad ([]:List Nat).length cd] 51);obtain ⟨HV,HB,HR⟩:=hd3 (nValid cn (h4.below hB0)) hB0 hR;clear h hR h4 h5 h3 h2 hB0 hd
 by_cases hc:Canon x.num
 ·rw [decide_eq_true hc] at HV HR;clear hc
  by_cases hn:x.neg=true
  ·rw [hn] at HV HR HB ⊢;clear hn
   by_cases hp:0 < x.num.length
   ·rw [decide_eq_true hp] at HR
    go_enter Tryz.func83,Tryz.ntmps83
    go_wp2_with fail
    refine HV.out.mono ?_
    rintro e w' ⟨rfl,rfl⟩;go_wp2;go_ret;exact ⟨ret_bool HR.out.symm,HB.out⟩
   ·rw [decide_eq_false hp] at HR;have hp0:x.num.length=0:=by omega
    rw [hp0] at HV HB ⊢;clear hp hp0
    go_enter Tryz.func83,Tryz.ntmps83
    go_wp2_with fail
    refine HV.out.mono ?_
    rintro e w' ⟨rfl,rfl⟩;go_wp2;go_ret;exact ⟨ret_bool HR.out.symm,HB.out⟩
  ·rw [Bool.not_eq_true] at hn;rw [hn] at HV HR HB ⊢;clear hn
   go_enter Tryz.func83,Tryz.ntmps83
   go_wp2_with fail
   refine HV.out.mono ?_
   rintro e w' ⟨rfl,rfl⟩;go_wp2;go_ret;exact ⟨ret_bool HR.out.symm,HB.out⟩
 ·rw [decide_eq_false hc] at HV HR;clear hc
  go_enter Tryz.func83,Tryz.ntmps83
  go_wp2_with fail
  refine HV.out.mono ?_
  rintro e w' ⟨rfl,rfl⟩;go_wp2;go_ret;exact ⟨ret_bool HR.out.symm,HB.out⟩
theorem cmpN_zero {x y:Nat}:(cmpN x y==0)=decide (x=y):=by
 unfold cmpN;rw [Bool.eq_iff_iff,beq_iff_eq,decide_eq_true_eq]
 split <;> (try split) <;> omega
theorem len_beq {a b:Nat}:((a:Int)==(b:Int))=decide (a=b):=by
 rw [Bool.eq_iff_iff,beq_iff_eq,decide_eq_true_eq];omega
theorem rValid_some {w:World} {v:Value} {x:RatL} (h:RatV w v x) (hd:x.den ≠ []) (hr:x.num.length<=1099511627776) (hr2:x.den.length < 1099511627776):Calls Tryz.prog 83 #[v] w fun e w'=>e=.returned (.bool (validR x))/\Below w.heap.size w w':=by
 have hR:=valid_some h.lim;have HVw:=hid h;obtain ⟨an,ad,cn,cd,hv,h2,h3,h4,h5⟩:=h.ex;have HVe:=hid hv;rw [hv];have hl:=h4.len;have hl2:=h5.len;have hdl:((x.den.length:Int)==0)=false:=by have:=List.length_pos_iff.2 hd;rw [beq_eq_false_iff_ne];omega
 obtain ⟨HD,H4,H5,HC0⟩:=hd4 hd h4 h5 (fun wv (hh:RatV wv v x)=>rCanon hh hr hr2);rw [hv] at HC0 HVw;generalize canonL x=C at hR HC0;have HR:=hid hR;clear h h4 h5 hd hv hR
 go_enter Tryz.func83,Tryz.ntmps83
 have hB0:=blA w (ratO x an cn ad cd 51)
 go_wp2_with fail
 refine (HC0.out _ (HVw.out.below hB0)).mono ?_
 rintro e1 w1 ⟨v2,rfl,⟨bn,bd,m1,m2,rfl,k3,k4,k5,k6⟩,hb1⟩;have hX1:=(Box3.alloc w (.bool x.neg) (.slice an x.num.length cn) (.slice ad x.den.length cd) 51).below hb1;have hbA:=hB0.trans (hb1.mono hB0.size);have hbB:=blA w1 (ratO C bn m1 bd m2 51);obtain ⟨x0,x1,x2,_,_⟩:=hX1.below hbB;obtain ⟨r0,r1,r2,_,_⟩:=Box3.alloc w1 (.bool C.neg) (.slice bn C.num.length m1) (.slice bd C.den.length m2) 51;have HB:=hid (hbA.trans (hbB.mono hbA.size));have hlc1:=k5.len;have hlc2:=k6.len;obtain ⟨HM1,HM2,HBn⟩:=hd3 (nCmp cn m1 h2 k3 ((H4.out.below hbA).below hbB) (k5.below hbB) rfl rfl) (fun n=>nCmp cd m2 h3 k4 (((H5.out.below hbA).below hbB).drewN n) ((k6.below hbB).drewN n) rfl rfl) (fun (wv:World) n=>Below.drewN_refl wv n);clear k5 k6 hbA hbB hb1 hB0 hX1
 by_cases e1:x.neg=C.neg
 ·have te1:(x.neg==C.neg)=true:=by rw [beq_iff_eq];exact e1
  rw [decide_eq_true e1] at HR;clear e1
  by_cases e2:x.num.length=C.num.length
  ·have te2:((x.num.length:Int)==(C.num.length:Int))=true:=by rw [len_beq];exact decide_eq_true e2
   rw [decide_eq_true e2] at HR;clear e2
   by_cases e3:x.den.length=C.den.length
   ·have te3:((x.den.length:Int)==(C.den.length:Int))=true:=by rw [len_beq];exact decide_eq_true e3
    rw [decide_eq_true e3] at HR;clear e3
    by_cases e4:lval x.num=lval C.num
    ·have t4:(cmpN (lval x.num) (lval C.num)==0)=true:=by rw [cmpN_zero];exact decide_eq_true e4
     rw [decide_eq_true e4] at HR;clear e4;generalize cmpN (lval x.num) (lval C.num)=z1 at *
     by_cases e5:lval x.den=lval C.den
     ·have t5:(cmpN (lval x.den) (lval C.den)==0)=true:=by rw [cmpN_zero];exact decide_eq_true e5
      rw [decide_eq_true e5] at HR;clear e5;generalize cmpN (lval x.den) (lval C.den)=z2 at *
      go_wp2_with fail
      refine HM1.out.mono ?_
      rintro e2 w2 ⟨rfl,n1,rfl⟩
      go_wp2_with fail
      refine (HM2.out n1).mono ?_
      rintro e3 w3 ⟨rfl,n2,rfl⟩;go_wp2;go_ret;exact ⟨ret_bool HR.out.symm,HB.out.trans ((HBn.out _ (n1+n2)).mono HB.out.size)⟩
     ·have t5:(cmpN (lval x.den) (lval C.den)==0)=false:=by rw [cmpN_zero];exact decide_eq_false e5
      rw [decide_eq_false e5] at HR;clear e5;generalize cmpN (lval x.den) (lval C.den)=z2 at *
      go_wp2_with fail
      refine HM1.out.mono ?_
      rintro e2 w2 ⟨rfl,n1,rfl⟩
      go_wp2_with fail
      refine (HM2.out n1).mono ?_
      rintro e3 w3 ⟨rfl,n2,rfl⟩;go_wp2;go_ret;exact ⟨ret_bool HR.out.symm,HB.out.trans ((HBn.out _ (n1+n2)).mono HB.out.size)⟩
    ·have t4:(cmpN (lval x.num) (lval C.num)==0)=false:=by rw [cmpN_zero];exact decide_eq_false e4
     rw [decide_eq_false e4] at HR;clear e4;generalize cmpN (lval x.num) (lval C.num)=z1 at *
     go_wp2_with fail
     refine HM1.out.mono ?_
     rintro e2 w2 ⟨rfl,n1,rfl⟩;go_wp2;go_ret;exact ⟨ret_bool HR.out.symm,HB.out.trans ((HBn.out _ _).mono HB.out.size)⟩
   ·have te3:((x.den.length:Int)==(C.den.length:Int))=false:=by rw [len_beq];exact decide_eq_false e3
    rw [decide_eq_false e3] at HR;clear e3;go_wp2;go_ret;exact ⟨ret_bool HR.out.symm,HB.out⟩
  ·have te2:((x.num.length:Int)==(C.num.length:Int))=false:=by rw [len_beq];exact decide_eq_false e2
   rw [decide_eq_false e2] at HR;clear e2;go_wp2;go_ret;exact ⟨ret_bool HR.out.symm,HB.out⟩
 ·have te1:(x.neg==C.neg)=false:=by rw [beq_eq_false_iff_ne];exact e1
  rw [decide_eq_false e1] at HR;clear e1;go_wp2;go_ret;exact ⟨ret_bool HR.out.symm,HB.out⟩
theorem rValid {w:World} {v:Value} {x:RatL} (h:RatV w v x) (hr:x.num.length<=1099511627776) (hr2:x.den.length < 1099511627776):Calls Tryz.prog 83 #[v] w fun e w'=>e=.returned (.bool (validR x))/\Below w.heap.size w w':=by
 by_cases hd:x.den=[]
 ·exact rValid_none h hd
 ·exact rValid_some h hd hr hr2
def sgn (neg:Bool) (n:Nat):Int:=if neg then -(n:Int) else (n:Int)
def signZ (neg:Bool) (n:Nat):Int:=if n=0 then 0 else if neg then -1 else 1
structure IntV (w:World) (v:Value) (neg:Bool) (n k:Nat):Prop where
 ex:∃ (a:Option Addr) (c:Nat) (l:List Nat),v=.agg #[.bool neg,.slice a l.length c]/\l.length<=c/\U32s w a l/\lval l=n/\l.length<=k
theorem IntV.below {w w':World} {v:Value} {neg:Bool} {n k:Nat} (h:IntV w v neg n k) (hb:Below w.heap.size w w'):IntV w' v neg n k:=by
 obtain ⟨a,c,l,h1,h2,h3,h4,h5⟩:=h.ex;exact ⟨a,c,l,h1,h2,h3.below hb,h4,h5⟩
def RetI (w:World) (neg:Bool) (n k:Nat) (e:Ending) (w':World):Prop:=∃ v,e=.returned v/\IntV w' v (neg && decide (n ≠ 0)) n k/\Below w.heap.size w w'
structure Box2 (w:World) (g:Nat) (p q:Value):Prop where
 c0:w.cell? ⟨g,0,none⟩=some p
 c1:w.cell? ⟨g,1,none⟩=some q
 free:∀ o,w.frozen? ⟨g,o,none⟩=false
 lt:g < w.heap.size
theorem Box2.below {w w':World} {g:Nat} {p q:Value} (h:Box2 w g p q) (hb:Below w.heap.size w w'):Box2 w' g p q:=
 ⟨(hb.cell h.lt).trans h.c0,(hb.cell h.lt).trans h.c1,fun o=>(hb.frozen h.lt).trans (h.free o),Nat.lt_of_lt_of_le h.lt hb.size⟩
theorem Box2.alloc (w:World) (p q:Value) (T:Nat):Box2 (w.alloc (.cells #[p,q] T)) w.heap.size p q:=
 ⟨by rw [World.cell?_alloc_at _ _ _ _ rfl];rfl,by rw [World.cell?_alloc_at _ _ _ _ rfl];rfl,fun o=>World.frozen?_alloc_new _ _ _ _,by simp⟩
theorem iMake {w:World} {a:Option Addr} {l:List Nat} (neg:Bool) {n:Nat} (c k:Nat) (hc:l.length<=c) (h:U32s w a l) (hx:lval l=n) (hk:l.length<=k) (hr:k<=17592186044416):
  Calls Tryz.prog 177 #[.bool neg,.slice a l.length c] w (RetI w neg n k):=by
 have hB0:=blA w (.cells #[.bool false,.slice none 0 0] 89);have HM:=hid (nMake c hc (h.below hB0) (by omega));rw [hx] at HM;have hR:=Box2.alloc w (.bool false) (.slice none 0 0) 89;have hN:=NoInt.alloc w #[.bool false,.slice none 0 0] 89 (by simp);have hl:=h.len;have hnl:(limbs n).length<=l.length:=by have:=limbs_len_of_lval h.lim;rwa [hx] at this
 obtain ⟨HB,HR,HN⟩:=hd3 hB0 hR hN;clear h hx hB0 hR hN
 go_enter Tryz.func177,Tryz.ntmps177
 go_wp2_with fail
 refine HM.out.mono ?_
 rintro e w1 ⟨a1,c1,rfl,h1,h2,hb⟩;obtain ⟨r0,r1,rf,rlt⟩:=HR.out.below hb;have HN1:=hid (HN.out.below hb (by simp));have HB1:=htr HB hb;have H2:=hid h2;clear HM HR HN HB h2 hb
 by_cases hn:n=0
 ·subst hn;rw [limbs_zero] at *
  cases neg with
  | false=>
   go_wp2;have hbf:=(HB1.out.setCell (p:=⟨w.heap.size,0,none⟩) (Nat.le_refl _) (.bool false)).setCell (p:=⟨w.heap.size,1,none⟩) (Nat.le_refl _) (.slice a1 0 c1);exact bodyPost_ret (v:=.agg #[.bool false,.slice a1 0 c1]) (by simp [results,Tryz.results177,go_sem,r0,r1]) rfl ⟨_,rfl,⟨a1,c1,[],rfl,Nat.zero_le _,U32s.nil _ _,rfl,Nat.zero_le _⟩,hbf⟩
  | true=>
   go_wp2;have hbf:=(HB1.out.setCell (p:=⟨w.heap.size,0,none⟩) (Nat.le_refl _) (.bool false)).setCell (p:=⟨w.heap.size,1,none⟩) (Nat.le_refl _) (.slice a1 0 c1);exact bodyPost_ret (v:=.agg #[.bool false,.slice a1 0 c1]) (by simp [results,Tryz.results177,go_sem,r0,r1]) rfl ⟨_,rfl,⟨a1,c1,[],rfl,Nat.zero_le _,U32s.nil _ _,rfl,Nat.zero_le _⟩,hbf⟩
 ·have hp:=limbs_pos_iff.2 (Nat.pos_of_ne_zero hn);have hd:=decide_eq_true hn;have HDn:=hid hd;clear hn hd
  cases neg with
  | false=>
   go_wp2;have hbf:=(HB1.out.setCell (p:=⟨w.heap.size,0,none⟩) (Nat.le_refl _) (.bool false)).setCell (p:=⟨w.heap.size,1,none⟩) (Nat.le_refl _) (.slice a1 (limbs n).length c1);exact bodyPost_ret (v:=.agg #[.bool false,.slice a1 (limbs n).length c1]) (by simp [results,Tryz.results177,go_sem,r0,r1]) rfl ⟨_,rfl,⟨a1,c1,limbs n,by simp,h1,(H2.out.setCell HN1.out _ _).setCell (HN1.out.setCell _ _ (by simp)) _ _,lval_limbs n,by omega⟩,hbf⟩
  | true=>
   go_wp2;have hbf:=(HB1.out.setCell (p:=⟨w.heap.size,0,none⟩) (Nat.le_refl _) (.bool true)).setCell (p:=⟨w.heap.size,1,none⟩) (Nat.le_refl _) (.slice a1 (limbs n).length c1);exact bodyPost_ret (v:=.agg #[.bool true,.slice a1 (limbs n).length c1]) (by simp [results,Tryz.results177,go_sem,r0,r1]) rfl ⟨_,rfl,⟨a1,c1,limbs n,by rw [HDn.out];rfl,h1,(H2.out.setCell HN1.out _ _).setCell (HN1.out.setCell _ _ (by simp)) _ _,lval_limbs n,by omega⟩,hbf⟩
theorem iSign {w:World} {v:Value} {neg:Bool} {n k:Nat} (h:IntV w v neg n k) (hr:k<=17592186044416):
  Calls Tryz.prog 158 #[v] w fun e w'=>e=.returned (.int .i64 (signZ neg n))/\Below w.heap.size w w':=by
 obtain ⟨a,c,l,rfl,h1,h2,h3,h4⟩:=h.ex;have hB0:=blA w (.cells #[.bool neg,.slice a l.length c] 89);obtain ⟨H2,HB⟩:=hd2 (h2.below hB0) hB0;have hl:=h2.len;clear h h2 hB0
 by_cases hn:n=0
 ·subst hn;have HZ:=hid (nBits_zero c h1 H2.out h3);clear h3
  go_enter Tryz.func158,Tryz.ntmps158
  go_wp2_with fail
  refine HZ.out.mono ?_
  rintro e w' ⟨rfl,rfl⟩;go_wp2;go_ret;exact ⟨rfl,HB.out⟩
 ·have HZ:=hid (nBits_pos c h1 H2.out h3 hn (by omega));have HS:Hid (signZ neg n=if neg then -1 else 1):=by unfold Hid signZ;rw [if_neg hn]
  clear h3 hn
  go_enter Tryz.func158,Tryz.ntmps158
  go_wp2_with fail
  refine HZ.out.mono ?_
  rintro e w' ⟨⟨m,rfl,hm1,hm2⟩,rfl⟩;have hz:((m:Int)==0)=false:=by rw [beq_eq_false_iff_ne];omega
  cases neg with
  | false=>
   go_wp2;go_ret;exact ⟨ret_int HS.out.symm,HB.out⟩
  | true=>
   go_wp2;go_ret;exact ⟨ret_int HS.out.symm,HB.out⟩
theorem S22_keep {W w1:World} {g h:Nat} {p q r s:Value} (hg:Box2 W g p q) (hh:Box2 W h r s) (hb:Below W.heap.size W w1):
  w1.cell? ⟨g,0,none⟩=some p/\w1.cell? ⟨g,1,none⟩=some q/\w1.cell? ⟨h,0,none⟩=some r/\w1.cell? ⟨h,1,none⟩=some s:=
 ⟨(hb.cell hg.lt).trans hg.c0,(hb.cell hg.lt).trans hg.c1,(hb.cell hh.lt).trans hh.c0,(hb.cell hh.lt).trans hh.c1⟩
theorem mul_len {l m:List Nat} {x y k1 k2:Nat} (hx:lval l=x) (hy:lval m=y) (h1:l.length<=k1) (h2:m.length<=k2) (hl:Lim l) (hm:Lim m):(limbs (x * y)).length<=k1+k2:=by
 refine limbs_len_le (Nat.lt_of_lt_of_le (m:=4294967296^(l.length+m.length)) ?_ (Nat.pow_le_pow_right (by omega) (by omega)))
 rw [<- hx, <- hy,Nat.pow_add];exact Nat.mul_lt_mul'' (lval_lt hl) (lval_lt hm)
theorem far2 {w:World} {g h o i:Nat} {u:Value} (hne:g ≠ h):(w.setCell ⟨g,i,none⟩ u).cell? ⟨h,o,none⟩=w.cell? ⟨h,o,none⟩:=World.cell?_setCell_other _ _ _ _ (by intro e;cases e;exact hne rfl)
theorem S22_store {W w1:World} {g:Nat} {p q r s:Value} (hg:Box2 W g p q) (hh:Box2 W (g+1) r s) (hb:Below W.heap.size W w1) (u u':Value):
  ((w1.setCell ⟨g+1+1,0,none⟩ u).setCell ⟨g+1+1,1,none⟩ u').cell? ⟨g,0,none⟩=some p/\((w1.setCell ⟨g+1+1,0,none⟩ u).setCell ⟨g+1+1,1,none⟩ u').cell? ⟨g,1,none⟩=some q/\
  ((w1.setCell ⟨g+1+1,0,none⟩ u).setCell ⟨g+1+1,1,none⟩ u').cell? ⟨g+1,0,none⟩=some r/\((w1.setCell ⟨g+1+1,0,none⟩ u).setCell ⟨g+1+1,1,none⟩ u').cell? ⟨g+1,1,none⟩=some s:=by
 obtain ⟨a,b,c,d⟩:=S22_keep hg hh hb
 refine ⟨?_,?_,?_,?_⟩ <;> rw [far2 (by omega),far2 (by omega)] <;> assumption
structure Two (w W:World) (g:Nat) (p q r s:Value):Prop where
 a:Box2 W g p q
 b:Box2 W (g+1) r s
 bl:Below g w W
theorem Two.mk' (w:World) (p q r s:Value) (T:Nat):Two w ((w.alloc (.cells #[p,q] T)).alloc (.cells #[r,s] T)) w.heap.size p q r s:=by
 refine ⟨(Box2.alloc w p q T).below ((Below.refl _ _).alloc (Nat.le_refl _) _),?_,((Below.refl _ _).alloc (Nat.le_refl _) _).alloc (by simp) _⟩
 have:=Box2.alloc (w.alloc (.cells #[p,q] T)) r s T
 simpa using this
theorem iMul {w:World} {v u:Value} {n1 n2:Bool} {x y k1 k2:Nat} (hv:IntV w v n1 x k1) (hu:IntV w u n2 y k2) (hr:k1+k2<=17592186044416):
  Calls Tryz.prog 175 #[v,u] w (RetI w (n1 != n2) (x * y) (k1+k2)):=by
 obtain ⟨a,c,l,rfl,h1,h2,h3,h4⟩:=hv.ex;obtain ⟨b,d,m,rfl,g1,g2,g3,g4⟩:=hu.ex;have hl1:=h2.len;have hl2:=g2.len;obtain ⟨H2,G2⟩:=hd2 h2 g2;clear hv hu h2 g2
 go_enter Tryz.func175,Tryz.ntmps175
 go_wp2_with fail
 have hT:=Two.mk' w (.bool n1) (.slice a l.length c) (.bool n2) (.slice b m.length d) 89;have hR:=Box2.alloc ((w.alloc (.cells #[.bool n1,.slice a l.length c] 89)).alloc (.cells #[.bool n2,.slice b m.length d] 89)) (.bool false) (.slice none 0 0) 89;have hN:=NoInt.alloc ((w.alloc (.cells #[.bool n1,.slice a l.length c] 89)).alloc (.cells #[.bool n2,.slice b m.length d] 89)) #[.bool false,.slice none 0 0] 89 (by simp);have hbA:Below ((w.alloc (.cells #[.bool n1,.slice a l.length c] 89)).alloc (.cells #[.bool n2,.slice b m.length d] 89)).heap.size ((w.alloc (.cells #[.bool n1,.slice a l.length c] 89)).alloc (.cells #[.bool n2,.slice b m.length d] 89)) _:=(Below.refl _ _).alloc (Nat.le_refl _) (.cells #[.bool false,.slice none 0 0] 89);have hXa:=hT.a.below hbA;have hXb:=hT.b.below hbA;have hB0:=hT.bl.trans (hbA.mono (by simp;omega));simp only [World.size_alloc] at hR hN;generalize ((w.alloc (.cells #[.bool n1,.slice a l.length c] 89)).alloc (.cells #[.bool n2,.slice b m.length d] 89)).alloc (.cells #[.bool false,.slice none 0 0] 89)=W at *;obtain ⟨HXa,HXb,HR,HN,HB,H2W⟩:=hd6 hXa hXb hR hN hB0 (H2.out.below hB0);have G2W:=hid (G2.out.below hB0);have xbl:Below W.heap.size W W.drew:=(Below.refl _ _).drew;clear hT hR hN hbA hXa hXb hB0 H2 G2
 go_region_held3 (fun w'=>w'.cell? ⟨w.heap.size,0,none⟩=some (.bool n1)/\w'.cell? ⟨w.heap.size,1,none⟩=some (.slice a l.length c)/\w'.cell? ⟨w.heap.size+1,0,none⟩=some (.bool n2)/\w'.cell? ⟨w.heap.size+1,1,none⟩=some (.slice b m.length d))
  (first | exact S22_keep HXa.out HXb.out ‹Below W.heap.size W _› | exact S22_store HXa.out HXb.out ‹Below W.heap.size W _› _ _)
  (first
   | (go_at_call 161; have hS := ‹Below W.heap.size W _›; refine (nMul c d h1 g1 (H2W.out.below hS) (G2W.out.below hS) h3 g3 (by omega)).mono ?_; rintro e w1 ⟨a1, c1, rfl, p1, p2, p3⟩
      have hS1:=hS.trans (p3.mono hS.size))
   | (go_at_call 177; have hS := ‹Below W.heap.size W _›; refine (iMake (n1 != n2) c1 (k1 + k2) p1 p2 (lval_limbs _) ?kk hr).mono ?_
      case kk=>exact mul_len h3 g3 h4 g4 H2W.out.lim G2W.out.lim
      rintro e w2 ⟨v2,rfl,⟨a3,c3,l3,rfl,q1,q2,q3,q4⟩,q5⟩;have hS2:=hS.trans (q5.mono hS.size);obtain ⟨r0,r1,rf,rlt⟩:=HR.out.below hS2;obtain ⟨hN2,Q2⟩:=hd2 (HN.out.below hS2 HR.out.lt) q2;have hB2:=htr HB hS2))
 go_wp2;have hbf:=(hB2.out.setCell (p:=⟨w.heap.size+1+1,0,none⟩) (Nat.le_trans (Nat.le_succ _) (Nat.le_succ _)) (.bool (n1 != n2 && !decide (x * y=0)))).setCell (p:=⟨w.heap.size+1+1,1,none⟩) (Nat.le_trans (Nat.le_succ _) (Nat.le_succ _)) (.slice a3 l3.length c3)
 refine bodyPost_ret (v:=.agg #[.bool (n1 != n2 && !decide (x * y=0)),.slice a3 l3.length c3]) (by simp [results,Tryz.results175,go_sem,r0,r1]) rfl ⟨_,rfl,⟨a3,c3,l3,by simp,q1,?_,q3,q4⟩,hbf⟩
 exact (Q2.out.setCell hN2.out _ _).setCell (hN2.out.setCell _ _ (by simp)) _ _
theorem sgn_and (b:Bool) (n:Nat):sgn (b && decide (n ≠ 0)) n=sgn b n:=by
 by_cases h:n=0
 ·subst h;cases b <;> rfl
 ·simp [h]
theorem signZ_and (b:Bool) (n:Nat):signZ (b && decide (n ≠ 0)) n=signZ b n:=by
 by_cases h:n=0
 ·subst h;cases b <;> rfl
 ·simp [h]
theorem rSigned {w:World} {v:Value} {x:RatL} (h:RatV w v x) (hr:x.num.length<=17592186044416):Calls Tryz.prog 176 #[v] w (RetI w x.neg (lval x.num) x.num.length):=by
 obtain ⟨an,ad,cn,cd,rfl,h2,h3,h4,h5⟩:=h.ex;have hB0:Below w.heap.size w ((w.alloc (ratO x an cn ad cd 51)).alloc (.cells #[.bool false,.slice none 0 0] 89)):=
  ((Below.refl _ _).alloc (Nat.le_refl _) _).alloc (by simp) _
 have HM:=hid (iMake x.neg cn x.num.length h2 (h4.below hB0) rfl (Nat.le_refl _) hr);have hR:=Box2.alloc (w.alloc (ratO x an cn ad cd 51)) (.bool false) (.slice none 0 0) 89;have hN:=NoInt.alloc (w.alloc (ratO x an cn ad cd 51)) #[.bool false,.slice none 0 0] 89 (by simp);simp only [World.size_alloc] at hR hN;obtain ⟨HR,HN,HB⟩:=hd3 hR hN hB0;clear h h4 h5 hB0 hR hN
 go_enter Tryz.func176,Tryz.ntmps176
 go_wp2_with fail
 refine HM.out.mono ?_
 rintro e w1 ⟨v1,rfl,⟨a1,c1,l1,rfl,p1,p2,p3,p4⟩,hb⟩;obtain ⟨r0,r1,rf,rlt⟩:=HR.out.below hb;have HN1:=hid (HN.out.below hb HR.out.lt);have HB1:=htr HB hb;obtain ⟨P2,P3⟩:=hd2 p2 p3;clear HM HR HN HB p2 hb p3;generalize hbb:(x.neg && decide (lval x.num ≠ 0))=bb at *;have HBB:=hid hbb;clear hbb;go_wp2;have hbf:=(HB1.out.setCell (p:=⟨w.heap.size+1,0,none⟩) (Nat.le_succ _) (.bool bb)).setCell (p:=⟨w.heap.size+1,1,none⟩) (Nat.le_succ _) (.slice a1 l1.length c1);exact bodyPost_ret (v:=.agg #[.bool bb,.slice a1 l1.length c1]) (by simp [results,Tryz.results176,go_sem,r0,r1]) rfl
  ⟨_,rfl,by rw [HBB.out];exact ⟨a1,c1,l1,rfl,p1,(P2.out.setCell HN1.out _ _).setCell (HN1.out.setCell _ _ (by simp)) _ _,P3.out,p4⟩,hbf⟩
theorem rSign {w:World} {v:Value} {x:RatL} (h:RatV w v x) (hr:x.num.length<=17592186044416):Calls Tryz.prog 162 #[v] w fun e w'=>e=.returned (.int .i64 (signZ x.neg (lval x.num)))/\Below w.heap.size w w':=by
 have HV:=hid h;obtain ⟨an,ad,cn,cd,hv,h2,h3,h4,h5⟩:=h.ex;rw [hv] at HV ⊢;have hB0:=blA w (ratO x an cn ad cd 51);obtain ⟨HS,HB,HA⟩:=hd3 (rSigned (HV.out.below hB0) hr) hB0 (signZ_and x.neg (lval x.num));clear h hv h4 h5 hB0 HV
 go_enter Tryz.func162,Tryz.ntmps162
 go_wp2_with fail
 refine HS.out.mono ?_
 rintro e w1 ⟨v1,rfl,hI,hb⟩;generalize (x.neg && decide (lval x.num ≠ 0))=bb at *;have HI:=hid (iSign hI hr);have HB1:=htr HB hb;clear HS HB hI hb
 go_wp2_with fail
 refine HI.out.mono ?_
 rintro e w2 ⟨rfl,hb2⟩;go_wp2;go_ret;exact ⟨ret_int HA.out,HB1.out.trans (hb2.mono HB1.out.size)⟩
theorem S33_keep {W w1:World} {g h B:Nat} {p q r s t u:Value} (hg:Box3 W g p q r) (hh:Box3 W h s t u) (h1:g < B) (h2:h < B) (hb:Below B W w1):
  w1.cell? ⟨g,0,none⟩=some p/\w1.cell? ⟨g,1,none⟩=some q/\w1.cell? ⟨g,2,none⟩=some r/\w1.cell? ⟨h,0,none⟩=some s/\w1.cell? ⟨h,1,none⟩=some t/\w1.cell? ⟨h,2,none⟩=some u:=
 ⟨(hb.cell h1).trans hg.c0,(hb.cell h1).trans hg.c1,(hb.cell h1).trans hg.c2,(hb.cell h2).trans hh.c0,(hb.cell h2).trans hh.c1,(hb.cell h2).trans hh.c2⟩
theorem sgn_prod (b:Bool) (n m:Nat):sgn ((b && decide (n ≠ 0)) != false && decide (n * m ≠ 0)) (n * m)=sgn b (n * m):=by
 rw [sgn_and,Bool.bne_false]
 by_cases h:n=0
 ·subst h;rw [Nat.zero_mul];cases b <;> rfl
 ·simp [h]
theorem NoInt.far {w:World} {g h:Nat} (hn:NoInt w g) (hne:h ≠ g) (o:Nat) (v:Value):NoInt (w.setCell ⟨h,o,none⟩ v) g:=fun o' x e=>hn o' x ((far2 hne).symm.trans e)
structure Four (w W:World) (g:Nat) (p q r s t u:Value):Prop where
 a:Box3 W g p q r
 b:Box3 W (g+1) s t u
 c:Box2 W (g+1+1) (.bool false) (.slice none 0 0)
 d:Box2 W (g+1+1+1) (.bool false) (.slice none 0 0)
 nc:NoInt W (g+1+1)
 nd:NoInt W (g+1+1+1)
 bl:Below g w W
theorem Four.mk' (w:World) (p q r s t u:Value) (T T':Nat):Four w ((((w.alloc (.cells #[p,q,r] T)).alloc (.cells #[s,t,u] T)).alloc (.cells #[.bool false,.slice none 0 0] T')).alloc (.cells #[.bool false,.slice none 0 0] T')) w.heap.size p q r s t u:=by
 have step:∀ (W:World) (o:Obj),Below W.heap.size W (W.alloc o):=fun W o=>(Below.refl _ _).alloc (Nat.le_refl _) _
 have s1:=step w (.cells #[p,q,r] T);have s2:=step (w.alloc (.cells #[p,q,r] T)) (.cells #[s,t,u] T);have s3:=step ((w.alloc (.cells #[p,q,r] T)).alloc (.cells #[s,t,u] T)) (.cells #[.bool false,.slice none 0 0] T');have s4:=step (((w.alloc (.cells #[p,q,r] T)).alloc (.cells #[s,t,u] T)).alloc (.cells #[.bool false,.slice none 0 0] T')) (.cells #[.bool false,.slice none 0 0] T');have b1:=Box3.alloc w p q r T;have b2:=Box3.alloc (w.alloc (.cells #[p,q,r] T)) s t u T;have b3:=Box2.alloc ((w.alloc (.cells #[p,q,r] T)).alloc (.cells #[s,t,u] T)) (.bool false) (.slice none 0 0) T';have b4:=Box2.alloc (((w.alloc (.cells #[p,q,r] T)).alloc (.cells #[s,t,u] T)).alloc (.cells #[.bool false,.slice none 0 0] T')) (.bool false) (.slice none 0 0) T';have n3:=NoInt.alloc ((w.alloc (.cells #[p,q,r] T)).alloc (.cells #[s,t,u] T)) #[.bool false,.slice none 0 0] T' (by simp);have n4:=NoInt.alloc (((w.alloc (.cells #[p,q,r] T)).alloc (.cells #[s,t,u] T)).alloc (.cells #[.bool false,.slice none 0 0] T')) #[.bool false,.slice none 0 0] T' (by simp);have n3':=n3.below s4 (by simp);have b1':=((b1.below s2).below s3).below s4;have b2':=(b2.below s3).below s4;have b3':=b3.below s4;have bl:=((s1.trans (s2.mono (by simp))).trans (s3.mono (by simp;omega))).trans (s4.mono (by simp;omega));simp only [World.size_alloc] at b2' b3' b4 n3' n4;exact ⟨b1',b2',b3',b4,n3',n4,bl⟩
def RetX (w:World) (a b:RatL) (e:Ending) (w':World):Prop:=∃ v u n1 n2,e=.returned (.tuple #[v,u])/\IntV w' v n1 (lval a.num * underN b.den) (a.num.length+b.den.length+1)/\IntV w' u n2 (lval b.num * underN a.den) (b.num.length+a.den.length+1)/\
 sgn n1 (lval a.num * underN b.den)=sgn a.neg (lval a.num * underN b.den)/\sgn n2 (lval b.num * underN a.den)=sgn b.neg (lval b.num * underN a.den)/\Below w.heap.size w w'
theorem rCross {w:World} {v u:Value} {x y:RatL} (hv:RatV w v x) (hu:RatV w u y) (h1:x.num.length<=1099511627776) (h2:x.den.length<=1099511627776) (h3:y.num.length<=1099511627776) (h4:y.den.length<=1099511627776):
  Calls Tryz.prog 159 #[v,u] w (RetX w x y):=by
 obtain ⟨HV,HU⟩:=hd2 hv hu;obtain ⟨an,ad,cn,cd,hve,a2,a3,a4,a5⟩:=hv.ex;obtain ⟨bn,bd,dn,dd,hue,b2,b3,b4,b5⟩:=hu.ex;rw [hve] at HV ⊢;rw [hue] at HU ⊢;have hl1:=a4.len;have hl2:=a5.len;have hl3:=b4.len;have hl4:=b5.len;clear hv hu hve hue a4 a5 b4 b5
 go_enter Tryz.func159,Tryz.ntmps159
 go_wp2_with fail
 have hF:=Four.mk' w (.bool x.neg) (.slice an x.num.length cn) (.slice ad x.den.length cd) (.bool y.neg) (.slice bn y.num.length dn) (.slice bd y.den.length dd) 51 89;generalize (((w.alloc (ratO x an cn ad cd 51)).alloc (ratO y bn dn bd dd 51)).alloc (.cells #[.bool false,.slice none 0 0] 89)).alloc (.cells #[.bool false,.slice none 0 0] 89)=W at *;obtain ⟨HF,HVW,HUW⟩:=hd3 hF (HV.out.below hF.bl) (HU.out.below hF.bl);have k2:x.den.length<=17592186044416:=by omega
 have k4:y.den.length<=17592186044416:=by omega
 have hgW:Hid (w.heap.size+1+1+1 < W.heap.size):=hF.d.lt;have xbl:Below W.heap.size W W.drew:=(Below.refl _ _).drew;have tok1:True:=trivial;clear hF HV HU
 go_region_held3 (fun w'=>w'.cell? ⟨w.heap.size,0,none⟩=some (.bool x.neg)/\w'.cell? ⟨w.heap.size,1,none⟩=some (.slice an x.num.length cn)/\w'.cell? ⟨w.heap.size,2,none⟩=some (.slice ad x.den.length cd)/\
   w'.cell? ⟨w.heap.size+1,0,none⟩=some (.bool y.neg)/\w'.cell? ⟨w.heap.size+1,1,none⟩=some (.slice bn y.num.length dn)/\w'.cell? ⟨w.heap.size+1,2,none⟩=some (.slice bd y.den.length dd))
  (first | exact S33_keep HF.out.a HF.out.b HF.out.a.lt HF.out.b.lt ‹Below W.heap.size W _›)
  (first
   | (go_at_call 150; have _t := tok1; clear tok1; have hS := ‹Below W.heap.size W _›; refine (rUnder (HVW.out.below hS) k2).mono ?_; rintro e w1 ⟨a1, c1, l1, rfl, p1, p2, p3, p4, p5⟩
      have hS1:=hS.trans (p5.mono hS.size);have P2:=hid p2;have P3:=hid p3;clear p2 p3)
   | (go_at_call 150; have hS := ‹Below W.heap.size W _›; refine (rUnder (HUW.out.below hS) k4).mono ?_; rintro e w2 ⟨a2, c2, l2, rfl, q1, q2, q3, q4, q5⟩
      have hS2:=hS.trans (q5.mono hS.size);have P2':=hid (P2.out.below q5);have Q2:=hid q2;have Q3:=hid q3;clear q2 q3))
 go_wp2_with fail
 obtain ⟨Q2d,P2d⟩:=hd2 (Q2.out.below ((Below.refl w2.heap.size w2).drew)) (P2'.out.below ((Below.refl w2.heap.size w2).drew));have xbl2:Below W.heap.size W w2.drew:=hS2.drew;have hk1:x.num.length<=17592186044416:=by omega
 have hk3:y.num.length<=17592186044416:=by omega
 have IQ:∀ wv:World,U32s wv a2 l2->IntV wv (.agg #[.bool false,.slice a2 l2.length c2]) false (underN y.den) (y.den.length+1):=fun _ hh=>⟨a2,c2,l2,rfl,q1,hh,Q3.out,q4⟩
 have IP:∀ wv:World,U32s wv a1 l1->IntV wv (.agg #[.bool false,.slice a1 l1.length c1]) false (underN x.den) (x.den.length+1):=fun _ hh=>⟨a1,c1,l1,rfl,p1,hh,P3.out,p4⟩
 obtain ⟨HIQ,HIP⟩:=hd2 IQ IP;have tok3:True:=trivial;have tok4:True:=trivial;clear Q2 P2' P2 hS1 xbl hS2 p5 q5 IQ IP
 go_region_held3 (fun w'=>w'.cell? ⟨w.heap.size,0,none⟩=some (.bool x.neg)/\w'.cell? ⟨w.heap.size,1,none⟩=some (.slice an x.num.length cn)/\w'.cell? ⟨w.heap.size,2,none⟩=some (.slice ad x.den.length cd)/\
   w'.cell? ⟨w.heap.size+1,0,none⟩=some (.bool y.neg)/\w'.cell? ⟨w.heap.size+1,1,none⟩=some (.slice bn y.num.length dn)/\w'.cell? ⟨w.heap.size+1,2,none⟩=some (.slice bd y.den.length dd))
  (first
   | exact S33_keep HF.out.a HF.out.b HF.out.a.lt HF.out.b.lt ‹Below W.heap.size W _›
   | exact S33_keep (B:=w.heap.size+1+1) HF.out.a HF.out.b (Nat.lt_succ_of_lt (Nat.lt_succ_self _)) (Nat.lt_succ_self _) (((hS6.mono (Nat.le_of_lt HF.out.c.lt)).setCell (p:=⟨w.heap.size+1+1,0,none⟩) (Nat.le_refl _) _).setCell (p:=⟨w.heap.size+1+1,1,none⟩) (Nat.le_refl _) _)
   | exact S33_keep (B:=w.heap.size+1+1) HF.out.a HF.out.b (Nat.lt_succ_of_lt (Nat.lt_succ_self _)) (Nat.lt_succ_self _) (((((hS6.mono (Nat.le_of_lt HF.out.c.lt)).setCell (p:=⟨w.heap.size+1+1,0,none⟩) (Nat.le_refl _) _).setCell (p:=⟨w.heap.size+1+1,1,none⟩) (Nat.le_refl _) _).setCell (p:=⟨w.heap.size+1+1+1,0,none⟩) (Nat.le_succ _) _).setCell (p:=⟨w.heap.size+1+1+1,1,none⟩) (Nat.le_succ _) _))
  (first
   | (go_at_call 176; have _t := tok3; clear tok3; have hS := ‹Below W.heap.size W _›; refine (rSigned (HVW.out.below hS) hk1).mono ?_; rintro e w3 ⟨v3, rfl, i3, hb3⟩
      have hS3:=hS.trans (hb3.mono hS.size);have I3:=hid i3;have Q2e:=hid (Q2d.out.below hb3);have P2e:=hid (P2d.out.below hb3);clear i3)
   | (go_at_call 175; have _t := tok4; clear tok4; have hS := ‹Below W.heap.size W _›; refine (iMul I3.out (HIQ.out _ Q2e.out) (by omega)).mono ?_; rintro e w4 ⟨v4, rfl, ⟨a4, c4, l4, rfl, m1, m2, m3, m4⟩, hb4⟩
      have hS4:=hS.trans (hb4.mono hS.size);have M2:=hid m2;have P2f:=hid (P2e.out.below hb4);clear m2;generalize hn4:((x.neg && decide (lval x.num ≠ 0)) != false && decide (lval x.num * underN y.den ≠ 0))=nn1;have N4:=hid hn4;have M3:=hid m3;clear hn4 m3)
   | (go_at_call 176; have hS := ‹Below W.heap.size W _›; refine (rSigned (HUW.out.below hS) hk3).mono ?_; rintro e w5 ⟨v5, rfl, i5, hb5⟩
      have hS5:=hS.trans (hb5.mono hS.size);have I5:=hid i5;have P2g:=hid (P2f.out.below hb5);have M2':=hid (M2.out.below hb5);clear i5)
   | (go_at_call 175; have hS := ‹Below W.heap.size W _›; refine (iMul I5.out (HIP.out _ P2g.out) (by omega)).mono ?_; rintro e w6 ⟨v6, rfl, ⟨a6, c6, l6, rfl, t1, t2, t3, t4⟩, hb6⟩
      have hS6:=hS.trans (hb6.mono hS.size);have T2:=hid t2;have M2'':=hid (M2'.out.below hb6);clear t2;generalize hn6:((y.neg && decide (lval y.num ≠ 0)) != false && decide (lval y.num * underN x.den ≠ 0))=nn2;have N6:=hid hn6;have T3:=hid t3;clear hn6 t3;obtain ⟨r0,r1,rf,rlt⟩:=HF.out.c.below hS6;obtain ⟨s0,s1,sf,slt⟩:=HF.out.d.below hS6))
 obtain ⟨hBf,hn1,hn2⟩:=hd3 (HF.out.bl.trans (hS6.mono (by have:=HF.out.a.lt;omega))) (HF.out.nc.below hS6 HF.out.c.lt) (HF.out.nd.below hS6 HF.out.d.lt);go_wp2;have hbf:=(((hBf.out.setCell (p:=⟨w.heap.size+1+1,0,none⟩) (Nat.le_trans (Nat.le_succ _) (Nat.le_succ _)) (.bool nn1)).setCell (p:=⟨w.heap.size+1+1,1,none⟩) (Nat.le_trans (Nat.le_succ _) (Nat.le_succ _)) (.slice a4 l4.length c4)).setCell
  (p:=⟨w.heap.size+1+1+1,0,none⟩) (Nat.le_trans (Nat.le_succ _) (Nat.le_trans (Nat.le_succ _) (Nat.le_succ _))) (.bool nn2)).setCell (p:=⟨w.heap.size+1+1+1,1,none⟩) (Nat.le_trans (Nat.le_succ _) (Nat.le_trans (Nat.le_succ _) (Nat.le_succ _))) (.slice a6 l6.length c6)
 have c1':((w6.setCell ⟨w.heap.size+1+1,0,none⟩ (.bool nn1)).setCell ⟨w.heap.size+1+1,1,none⟩ (.slice a4 l4.length c4)).cell? ⟨w.heap.size+1+1+1,0,none⟩=some (.bool false):=by rw [far2 (by omega),far2 (by omega)];exact s0
 have c2':((w6.setCell ⟨w.heap.size+1+1,0,none⟩ (.bool nn1)).setCell ⟨w.heap.size+1+1,1,none⟩ (.slice a4 l4.length c4)).cell? ⟨w.heap.size+1+1+1,1,none⟩=some (.slice none 0 0):=by rw [far2 (by omega),far2 (by omega)];exact s1
 have hn2':=hn2.out.far (h:=w.heap.size+1+1) (by omega) 0 (.bool nn1);have hn2'':=hn2'.far (h:=w.heap.size+1+1) (by omega) 1 (.slice a4 l4.length c4);have hn3:=hn2''.setCell 0 (.bool nn2) (by simp);have q1:=((M2''.out.setCell hn1.out 0 (.bool nn1)).setCell (hn1.out.setCell _ _ (by simp)) 1 (.slice a4 l4.length c4))
 have q2:=(q1.setCell hn2'' 0 (.bool nn2)).setCell hn3 1 (.slice a6 l6.length c6);have t1':=((T2.out.setCell hn1.out 0 (.bool nn1)).setCell (hn1.out.setCell _ _ (by simp)) 1 (.slice a4 l4.length c4))
 have t2':=(t1'.setCell hn2'' 0 (.bool nn2)).setCell hn3 1 (.slice a6 l6.length c6)
 refine bodyPost_ret (v:=.tuple #[.agg #[.bool nn1,.slice a4 l4.length c4],.agg #[.bool nn2,.slice a6 l6.length c6]]) ?_ rfl ⟨_,_,nn1,nn2,rfl,⟨a4,c4,l4,rfl,m1,q2,M3.out,by omega⟩,⟨a6,c6,l6,rfl,t1,t2',T3.out,by omega⟩,?_,?_,hbf⟩
 ·simp [results,Tryz.results159,go_sem,r0,r1,c1',c2',far2]
 ·rw [<- N4.out];exact sgn_prod _ _ _
 ·rw [<- N6.out];exact sgn_prod _ _ _
def wthn (n lo hi:Int):Bool:=decide (lo<=n/\n<=hi)
theorem wthn_iff {n lo hi:Int}:wthn n lo hi=true ↔ lo<=n/\n<=hi:=by unfold wthn;rw [decide_eq_true_eq]
structure RatsAt (w:World) (a:Option Addr) (L:List RatL):Prop where
 len:L.length<=9223372036854775807
 row:L=[] ∨ ∃ b off,a=some ⟨b,off,none⟩/\b < w.heap.size/\∀ (j:Nat) (x:RatL),L[j]? =some x->∃ (an ad:Option Addr) (cn cd:Nat),w.cell? ⟨b,off+j * 3,none⟩=some (.bool x.neg)/\w.cell? ⟨b,off+j * 3+1,none⟩=some (.slice an x.num.length cn)/\w.cell? ⟨b,off+j * 3+2,none⟩=some (.slice ad x.den.length cd)/\
  RatV w (.agg #[.bool x.neg,.slice an x.num.length cn,.slice ad x.den.length cd]) x
theorem RatsAt.below {w w':World} {a:Option Addr} {L:List RatL} (h:RatsAt w a L) (hb:Below w.heap.size w w'):RatsAt w' a L:=by
 refine ⟨h.len,h.row.imp id ?_⟩
 rintro ⟨b,off,rfl,hs,hc⟩
 refine ⟨b,off,rfl,Nat.lt_of_lt_of_le hs hb.size,fun j x hj=>?_⟩
 obtain ⟨an,ad,cn,cd,h1,h2,h3,h4⟩:=hc j x hj;exact ⟨an,ad,cn,cd,(hb.cell hs).trans h1,(hb.cell hs).trans h2,(hb.cell hs).trans h3,h4.below hb⟩
theorem RatsAt.pick {w:World} {a:Option Addr} {L:List RatL} (h:RatsAt w a L) {k:Nat} (hk:k < L.length):
  ∃ b off x an ad cn cd,a=some ⟨b,off,none⟩/\b < w.heap.size/\L[k]? =some x/\w.cell? ⟨b,off+k * 3,none⟩=some (.bool x.neg)/\w.cell? ⟨b,off+k * 3+1,none⟩=some (.slice an x.num.length cn)/\w.cell? ⟨b,off+k * 3+2,none⟩=some (.slice ad x.den.length cd)/\
   RatV w (.agg #[.bool x.neg,.slice an x.num.length cn,.slice ad x.den.length cd]) x:=by
 rcases h.row with rfl | ⟨b,off,rfl,hb,hc⟩
 ·simp at hk
 ·have hd:L[k]? =some L[k]:=by simp [hk]
  obtain ⟨an,ad,cn,cd,h1,h2,h3,h4⟩:=hc k _ hd;exact ⟨b,off,L[k],an,ad,cn,cd,rfl,hb,hd,h1,h2,h3,h4⟩
theorem take_succ_at {α:Type} {l:List α} {k:Nat} {x:α} (hx:l[k]? =some x):l.take (k+1)=l.take k++[x]:=by
 rw [List.take_add_one,hx];rfl
structure LayL where
 kind:Int
 frm:Int
 out:Int
 kh:Int
 kw:Int
 stride:Int
 pad:Int
 weights:List RatL
 bias:List RatL
abbrev layO (l:LayL) (b1:Option Addr) (d1:Nat) (b2:Option Addr) (d2:Nat) (T:Nat):Obj:=.cells #[.int .i64 l.kind,.int .i64 l.frm,.int .i64 l.out,.int .i64 l.kh,.int .i64 l.kw,.int .i64 l.stride,.int .i64 l.pad,.slice b1 l.weights.length d1,.slice b2 l.bias.length d2] T
structure ModL where
 input:List Int
 layers:List LayL
structure LayV (w:World) (v:Value) (l:LayL):Prop where
 ex:∃ (a1 a2:Option Addr) (c1 c2:Nat),v=.agg #[.int .i64 l.kind,.int .i64 l.frm,.int .i64 l.out,.int .i64 l.kh,.int .i64 l.kw,.int .i64 l.stride,.int .i64 l.pad,.slice a1 l.weights.length c1,.slice a2 l.bias.length c2]/\RatsAt w a1 l.weights/\RatsAt w a2 l.bias
theorem LayV.below {w w':World} {v:Value} {l:LayL} (h:LayV w v l) (hb:Below w.heap.size w w'):LayV w' v l:=by
 obtain ⟨a1,a2,c1,c2,e,h1,h2⟩:=h.ex;exact ⟨a1,a2,c1,c2,e,h1.below hb,h2.below hb⟩
def LayAt (w:World) (b o:Nat) (l:LayL):Prop:=∃ (a1 a2:Option Addr) (c1 c2:Nat),
 (w.cell? ⟨b,o,none⟩=some (.int .i64 l.kind)/\w.cell? ⟨b,o+1,none⟩=some (.int .i64 l.frm)/\w.cell? ⟨b,o+2,none⟩=some (.int .i64 l.out)/\w.cell? ⟨b,o+3,none⟩=some (.int .i64 l.kh)/\
  w.cell? ⟨b,o+4,none⟩=some (.int .i64 l.kw)/\w.cell? ⟨b,o+5,none⟩=some (.int .i64 l.stride)/\w.cell? ⟨b,o+6,none⟩=some (.int .i64 l.pad)/\w.cell? ⟨b,o+7,none⟩=some (.slice a1 l.weights.length c1)/\w.cell? ⟨b,o+8,none⟩=some (.slice a2 l.bias.length c2))/\
 RatsAt w a1 l.weights/\RatsAt w a2 l.bias
theorem LayAt.below {w w':World} {b o:Nat} {l:LayL} (h:LayAt w b o l) (hl:b < w.heap.size) (hb:Below w.heap.size w w'):LayAt w' b o l:=by
 obtain ⟨a1,a2,c1,c2,⟨h0,h1,h2,h3,h4,h5,h6,h7,h8⟩,k1,k2⟩:=h;exact ⟨a1,a2,c1,c2,⟨(hb.cell hl).trans h0,(hb.cell hl).trans h1,(hb.cell hl).trans h2,(hb.cell hl).trans h3,(hb.cell hl).trans h4,(hb.cell hl).trans h5,(hb.cell hl).trans h6,(hb.cell hl).trans h7,(hb.cell hl).trans h8⟩,k1.below hb,k2.below hb⟩
structure LaysAt (w:World) (a:Option Addr) (L:List LayL):Prop where
 len:L.length<=9223372036854775807
 row:L=[] ∨ ∃ b off,a=some ⟨b,off,none⟩/\b < w.heap.size/\∀ (j:Nat) (x:LayL),L[j]? =some x->LayAt w b (off+j * 9) x
theorem LaysAt.below {w w':World} {a:Option Addr} {L:List LayL} (h:LaysAt w a L) (hb:Below w.heap.size w w'):LaysAt w' a L:=by
 refine ⟨h.len,h.row.imp id ?_⟩
 rintro ⟨b,off,rfl,hs,hc⟩;exact ⟨b,off,rfl,Nat.lt_of_lt_of_le hs hb.size,fun j x hj=>(hc j x hj).below hs hb⟩
theorem LaysAt.pick {w:World} {a:Option Addr} {L:List LayL} (h:LaysAt w a L) {k:Nat} (hk:k < L.length):
  ∃ b off x,a=some ⟨b,off,none⟩/\b < w.heap.size/\L[k]? =some x/\LayAt w b (off+k * 9) x:=by
 rcases h.row with rfl | ⟨b,off,rfl,hb,hc⟩
 ·simp at hk
 ·have hd:L[k]? =some L[k]:=by simp [hk]
  exact ⟨b,off,L[k],rfl,hb,hd,hc k _ hd⟩
theorem LaysAt.nil (w:World) (a:Option Addr):LaysAt w a []:=⟨by simp,.inl rfl⟩
structure Box9 (w:World) (g:Nat) (p0 p1 p2 p3 p4 p5 p6 p7 p8:Value):Prop where
 c0:w.cell? ⟨g,0,none⟩=some p0
 c1:w.cell? ⟨g,1,none⟩=some p1
 c2:w.cell? ⟨g,2,none⟩=some p2
 c3:w.cell? ⟨g,3,none⟩=some p3
 c4:w.cell? ⟨g,4,none⟩=some p4
 c5:w.cell? ⟨g,5,none⟩=some p5
 c6:w.cell? ⟨g,6,none⟩=some p6
 c7:w.cell? ⟨g,7,none⟩=some p7
 c8:w.cell? ⟨g,8,none⟩=some p8
 lt:g < w.heap.size
theorem Box9.below {w w':World} {g:Nat} {p0 p1 p2 p3 p4 p5 p6 p7 p8:Value} (h:Box9 w g p0 p1 p2 p3 p4 p5 p6 p7 p8) (hb:Below w.heap.size w w'):Box9 w' g p0 p1 p2 p3 p4 p5 p6 p7 p8:=
 ⟨(hb.cell h.lt).trans h.c0,(hb.cell h.lt).trans h.c1,(hb.cell h.lt).trans h.c2,(hb.cell h.lt).trans h.c3,(hb.cell h.lt).trans h.c4,(hb.cell h.lt).trans h.c5,(hb.cell h.lt).trans h.c6,(hb.cell h.lt).trans h.c7,(hb.cell h.lt).trans h.c8,Nat.lt_of_lt_of_le h.lt hb.size⟩
theorem Box9.alloc (w:World) (p0 p1 p2 p3 p4 p5 p6 p7 p8:Value) (T:Nat):Box9 (w.alloc (.cells #[p0,p1,p2,p3,p4,p5,p6,p7,p8] T)) w.heap.size p0 p1 p2 p3 p4 p5 p6 p7 p8:=by
 refine ⟨?_,?_,?_,?_,?_,?_,?_,?_,?_,by simp⟩ <;> (rw [World.cell?_alloc_at _ _ _ _ rfl];rfl)
def sidB (n:Int):Bool:=decide (1<=n) && decide (n<=64)
def kerB (l:LayL):Bool:=sidB l.kh && (sidB l.kw && sidB l.stride)
def outB (l:LayL):Bool:=decide (1<=l.out) && decide (l.out<=16384)
def wgtB (l:LayL) (n:Int):Bool:=decide ((l.bias.length:Int)=l.out) && (decide (0 < l.weights.length) && (decide (l.weights.length<=16384) && decide ((l.weights.length:Int) % n=0)))
def noneB (l:LayL):Bool:=decide (l.weights=[]) && decide (l.bias=[])
def condL (l:LayL) (i:Int):Bool:=
 if l.kind=1 then outB l && (wgtB l l.out && decide (l.frm=0/\l.kh=0/\l.kw=0/\l.stride=0/\l.pad=0))
 else if l.kind=2 then outB l && (kerB l && (decide (0<=l.pad) && (decide (l.pad < l.kh) && (decide (l.pad < l.kw) && (wgtB l (l.out * l.kh * l.kw) && decide (l.frm=0))))))
 else if l.kind=3 ∨ l.kind=4 then kerB l && (decide (l.frm=0/\l.out=0/\l.pad=0) && noneB l)
 else if l.kind=5 ∨ l.kind=6 then decide (l.frm=0/\l.out=0/\l.kh=0/\l.kw=0/\l.stride=0/\l.pad=0) && noneB l
 else if l.kind=7 then decide (-1<=l.frm) && (decide (l.frm < i) && (decide (l.out=0/\l.kh=0/\l.kw=0/\l.stride=0/\l.pad=0) && noneB l))
 else false
def numsB (l:LayL):Bool:=l.weights.all validR && l.bias.all validR
def layOK (l:LayL) (i:Int):Bool:=condL l i && numsB l
def laysFrom:List LayL->Int->Bool
 | [],_=>true
 | l::r,i=>layOK l i && laysFrom r (i+1)
def validM (m:ModL):Bool:=validL m.input && (decide (m.layers.length<=64) && laysFrom m.layers 0)
def reluL:LayL:=⟨5,0,0,0,0,0,0,[],[]⟩
theorem layOK_relu (i:Int):layOK reluL i=true:=by
 simp [layOK,condL,reluL,numsB,noneB]
theorem laysFrom_append (A B:List LayL) (i:Int):laysFrom (A++B) i=(laysFrom A i && laysFrom B (i+A.length)):=by
 induction A generalizing i with
 | nil=>simp [laysFrom]
 | cons a r ih=>
  show (layOK a i && laysFrom (r++B) (i+1))=((layOK a i && laysFrom r (i+1)) && laysFrom B (i+((r.length+1:Nat):Int)))
  have e:i+1+(r.length:Int)=i+((r.length+1:Nat):Int):=by omega
  rw [ih,Bool.and_assoc,e]
theorem laysFrom_relu (n:Nat) (i:Int):laysFrom (List.replicate n reluL) i=true:=by
 induction n generalizing i with
 | zero=>rfl
 | succ n ih=>
  rw [List.replicate_succ];show (layOK reluL i && laysFrom (List.replicate n reluL) (i+1))=true
  rw [layOK_relu,ih];rfl
theorem validM_probe (input:List Int) (n:Nat) (l:LayL):validM ⟨input,List.replicate n reluL++[l]⟩=(validL input && (decide (n+1<=64) && layOK l n)):=by
 unfold validM;simp only [laysFrom_append,laysFrom_relu,List.length_append,List.length_replicate,List.length_cons,List.length_nil,laysFrom,Bool.and_true,Bool.true_and,Int.zero_add,Nat.zero_add]
theorem laysFrom_at {L:List LayL} {i:Int} {j:Nat} {l:LayL} (h:laysFrom L i=true) (hj:L[j]? =some l):layOK l (i+j)=true:=by
 induction L generalizing i j with
 | nil=>simp at hj
 | cons a r ih=>
  unfold laysFrom at h;rw [Bool.and_eq_true] at h
  cases j with
  | zero=>simp at hj;subst hj;simpa using h.1
  | succ j=>
   have:=ih h.2 (j:=j) (by simpa using hj);rw [show i+((j+1:Nat):Int)=i+1+(j:Int) by omega];exact this
theorem validM_at {m:ModL} (h:validM m=true):validL m.input=true/\m.layers.length<=64/\∀ (j:Nat) (l:LayL),m.layers[j]? =some l->layOK l j=true:=by
 unfold validM at h;simp only [Bool.and_eq_true,decide_eq_true_eq] at h
 refine ⟨h.1,h.2.1,fun j l hj=>?_⟩
 have:=laysFrom_at h.2.2 hj
 simpa using this
def currL (input:List Int) (shapes:List (List Int)):List Int:=shapes.getLast?.getD input
def winsL (s:List Int) (l:LayL):Int × Int × Int:=(windowsL s l.kh l.kw l.stride l.pad).2
def rawL (input:List Int) (shapes:List (List Int)) (l:LayL):List Int × Bool:=
 if l.kind=1 then ([l.out],decide ((l.weights.length:Int)=l.out * sizeL (currL input shapes)))
 else if l.kind=2 then ([l.out,(winsL (currL input shapes) l).1,(winsL (currL input shapes) l).2.1],decide ((winsL (currL input shapes) l).2.2=0) && decide ((l.weights.length:Int)=l.out * (currL input shapes).getD 0 0 * l.kh * l.kw))
 else if l.kind=3 ∨ l.kind=4 then ([(currL input shapes).getD 0 0,(winsL (currL input shapes) l).1,(winsL (currL input shapes) l).2.1],decide ((winsL (currL input shapes) l).2.2=0))
 else if l.kind=6 then ([sizeL (currL input shapes)],true)
 else if l.kind=7 then (currL input shapes,sameL (if 0<=l.frm then shapes.getD l.frm.toNat [] else input) (currL input shapes))
 else (currL input shapes,true)
def outSL (input:List Int) (shapes:List (List Int)) (l:LayL):List Int × Int:=
 if (validL input && (decide (shapes.length+1<=64) && layOK l shapes.length)) && shapes.all validL then
  (if (rawL input shapes l).2 && validL (rawL input shapes l).1 then ((rawL input shapes l).1,0) else ([],7))
 else ([],1)
def shapesFrom (input:List Int):List (List Int)->List LayL->List (List Int) × Int × Int
 | S,[]=>(S,0,0)
 | S,l::r=>if (outSL input S l).2=0 then shapesFrom input (S++[(outSL input S l).1]) r else ([],S.length,(outSL input S l).2)
def shapesL (m:ModL):List (List Int) × Int × Int:=if validM m then shapesFrom m.input [] m.layers else ([],0,1)
end Go.Proofs.YtfgmmghmmfmdgaaGreat
