/-
  Contracts of the functions that the statement reaches: RefH, RefI, RefJ, RefK, RefL, RefM, RefN, RefO.
-/
import Derived.Test.YtfgmmghmmfmdgaaGreatK15
import Derived.Deep.RegionWith
import Derived.Test.YtfgmmghmmfmdgaaGreatK10
set_option linter.all false
set_option maxRecDepth 100000
set_option maxHeartbeats 3200000
namespace Go.Proofs.YtfgmmghmmfmdgaaGreat
open Go.RowKit
open Go.Lib (hid)
def RetDM (w:World) (x y:Nat) (e:Ending) (w':World):Prop:=∃ a c b d,e=.returned (.tuple #[.slice a (limbs (x / y)).length c,.slice b (limbs (x % y)).length d,.int .i64 0])/\(limbs (x / y)).length<=c/\(limbs (x % y)).length<=d/\U32s w' a (limbs (x / y))/\U32s w' b (limbs (x % y))/\Below w.heap.size w w'
theorem r1DivMod_small {w:World} {a b:Option Addr} {l m:List Nat} {x y:Nat} (c d:Nat) (hc:l.length<=c) (hd:m.length<=d) (h:U32s w a l) (g:U32s w b m) (hx:lval l=x) (hy:lval m=y) (hr:l.length<=2097152) (hr2:m.length<=2097152) (hy0:0 < y)
  (h1:(limbs x).length<=2) (h2:(limbs y).length<=2):
  Calls Tryz.prog 106 #[.slice a l.length c,.slice b m.length d] w (RetDM w x y):=by
 obtain ⟨HA,HB,HG⟩:=hd3 (r1Uint c hc h hx (by omega)) (fun wv (hu:U32s wv b m)=>r1Uint d hd hu hy (by omega)) g;have HO1:Hid (uintOK x=true):=decide_eq_true h1;have HO2:Hid (uintOK y=true):=decide_eq_true h2;obtain ⟨HX,HY⟩:=hd2 (limbs_two h1) (limbs_two h2);rw [HO1.out,if_pos h1] at HA;simp only [HO2.out,if_pos h2] at HB;have hz1:((y:Int)==0)=false:=by rw [beq_eq_false_iff_ne];omega
 clear h g hx hy hc hd h1 h2
 go_enter Tryz.func106,Tryz.ntmps106
 go_wp2_with fail
 refine HA.out.mono ?_
 rintro e w1 ⟨rfl,hb1⟩;have HB2:=HB.out w1 (HG.out.below hb1);obtain ⟨HC,HB1⟩:=hd2 HB2 hb1;clear HA HB HB2 hb1
 go_wp2_with fail
 refine HC.out.mono ?_
 rintro e w2 ⟨rfl,hb2⟩;have HB2:=htr HB1 hb2;have HYp:=hid hy0;clear hb2 HC HB1;have D1:=tdiv_nat' x y;have D2:=tmod_nat' x y;have D3:Hid (x / y < 18446744073709551616):=Nat.lt_of_le_of_lt (Nat.div_le_self _ _) HX.out;have D4:Hid (x % y < 18446744073709551616):=Nat.lt_of_le_of_lt (Nat.mod_le _ _) HX.out;have O1:Hid (∀ wv,Calls Tryz.prog 77 #[.int .u64 (IntKind.u64.wrap ((x:Int) / (y:Int)))] wv (RetF wv (x / y))):=fun wv=>by
  have h:=r1Of (x / y) D3.out wv
  rwa [show ((x / y:Nat):Int)=IntKind.u64.wrap ((x:Int) / (y:Int)) by rw [IntKind.wrap_u64, <- Int.natCast_ediv];have:=D3.out;generalize x / y=q at *;omega] at h
 have O2:Hid (∀ wv,Calls Tryz.prog 77 #[.int .u64 ((x:Int) % (y:Int))] wv (RetF wv (x % y))):=fun wv=>by
  have h:=r1Of (x % y) D4.out wv
  rwa [Int.natCast_emod] at h
 go_wp2
 go_region_with (go_at_call 77;first | ((with_reducible refine (O1.out _).mono ?_);rintro e w3 ⟨a3,c3,rfl,h3,h4,h5,h6⟩) | ((with_reducible refine (O2.out _).mono ?_);rintro e w3 ⟨b3,d3,rfl,g3,g4,g5,g6⟩))
 all_goals
  go_wp2
  go_ret3
  have k5:=(Below.refl w2.heap.size w2).drew.trans h5;exact ⟨a3,c3,b3,d3,rfl,h3,g3,h4.below g5,g4,HB2.out.trans ((k5.trans (g5.mono k5.size)).mono HB2.out.size)⟩
theorem U32s.setFar {w:World} {g:Nat} {a:Option Addr} {l:List Nat} (h:U32s w a l) (hf:Far (g+1) a) (o:Nat) (v:Value):U32s (w.setCell ⟨g,o,none⟩ v) a l:=by
 by_cases hl:l=[]
 ·rw [hl];exact U32s.nil _ _
 obtain ⟨b,off,rfl,hb,hc⟩:=h.open hl;have hne:b ≠ g:=by
  have:=hf _ rfl;simp only at this;omega
 exact ((Only.refl g w).setCell o v).u32s hne h
theorem or_bit {a s:Nat} (ha:a < 4294967296) (hs:s < 32):bits .or .u32 (a:Int) (2^s % 4294967296)=((a ||| 2^s:Nat):Int):=by
 have h1:2^s<=2^31:=Nat.pow_le_pow_right (by omega) (by omega);have h2:((2:Int)^s % 4294967296)=((2^s:Nat):Int):=by
  have:((2:Int)^s)=((2^s:Nat):Int):=by simp
  rw [this];clear this;generalize 2^s=p at *;omega
 rw [h2,bits_or_u32_nat _ _ ha (by omega)]
theorem and_one_u32 (a:Nat) (ha:a < 4294967296):bits .and .u32 (a:Int) 1=((a % 2:Nat):Int):=by
 have h1:(BitVec.ofInt 32 (a:Int)).toNat=a:=by
  rw [BitVec.ofInt_natCast,BitVec.toNat_ofNat];exact Nat.mod_eq_of_lt (by omega)
 show IntKind.u32.wrap ((BitVec.ofInt 32 (a:Int) &&& BitVec.ofInt 32 (1:Int)).toNat:Int)=_
 rw [BitVec.toNat_and,h1,show (BitVec.ofInt 32 (1:Int)).toNat=1 from rfl,Nat.and_one_is_mod,IntKind.wrap_u32];omega
theorem dbl_len {R m b:Nat} (h:(limbs R).length<=m) (hb:b < 2):(limbs (R * 2+b)).length<=m+1:=by
 apply limbs_len_le
 have h1:=Nat.lt_of_lt_of_le (limbs_len_lt R) (Nat.pow_le_pow_right (show 0 < 4294967296 by omega) h);rw [Nat.pow_succ];omega
theorem U32s.one (w:World) {b:Nat} (hb:b < 4294967296) (T:Nat):U32s (w.alloc (.cells #[.int .u32 (b:Int)] T)) (some ⟨w.heap.size,0,none⟩) [b]:=by
 refine ⟨by intro d hd;simp at hd;omega,by simp,.inr ⟨w.heap.size,0,rfl,by simp,fun j d hj=>?_⟩⟩
 rw [World.cell?_alloc_at _ _ _ _ rfl]
 match j,hj with
 | 0,hj=>simp at hj;subst hj;simp
theorem r1DivMod_long {w:World} {a b:Option Addr} {l m:List Nat} {x y:Nat} (c d:Nat) (hc:l.length<=c) (hd:m.length<=d) (h:U32s w a l) (g:U32s w b m) (hx:lval l=x) (hy:lval m=y) (hr:l.length<=2097152) (hr2:m.length<=2097152) (hy0:0 < y)
  (h12:¬ ((limbs x).length<=2/\(limbs y).length<=2)):
  Calls Tryz.prog 106 #[.slice a l.length c,.slice b m.length d] w (RetDM w x y):=by
 obtain ⟨HA,HB,HBt,HU,HG,HX⟩:=hd6 (r1Uint c hc h hx (by omega)) (fun wv (hu:U32s wv b m)=>r1Uint d hd hu hy (by omega)) (fun wv (hu:U32s wv a l)=>r1Bits c hc hu hx (by omega)) h g hx;have HY:=hid hy;have hlx:(limbs x).length<=l.length:=by rw [<- hx];exact limbs_len_of_lval h.lim
 obtain ⟨i0,hi,hz3,hz4,hz5⟩:=info_parts Tryz.infoU32;have hfl:(uintOK y && (if (limbs y).length<=2 then (y:Int) else 0)==0)=false/\(uintOK x && uintOK y)=false:=by
  unfold uintOK
  by_cases h1:(limbs y).length<=2
  ·have h2:¬ (limbs x).length<=2:=fun h=>h12 ⟨h,h1⟩
   simp [h1,h2];omega
  ·simp [h1]
 obtain ⟨f1,f2⟩:=hfl;clear h g hx hy hc hd h12
 go_enter Tryz.func106,Tryz.ntmps106
 go_wp2_with fail
 refine HA.out.mono ?_
 rintro e w1 ⟨rfl,hb1⟩;have HB2:=HB.out w1 (HG.out.below hb1);obtain ⟨HC,HB1⟩:=hd2 HB2 hb1;clear HA HB HB2 hb1;generalize (if (limbs x).length<=2 then (x:Int) else 0)=X at *;generalize (if (limbs y).length<=2 then (y:Int) else 0)=Y at *;generalize uintOK x=P at *;generalize uintOK y=Q at *
 go_wp2_with fail
 refine HC.out.mono ?_
 rintro e w2 ⟨rfl,hb2⟩;have HB2:=htr HB1 hb2;have HYp:=hid hy0;clear hb2 HC HB1;have hPQ:(Q=false/\P=false) ∨ (Q=false/\P=true) ∨ (Q=true/\P=false/\(Y==0)=false):=by
  cases Q <;> cases P <;> simp_all
 clear f1 f2
 rcases hPQ with ⟨rfl,rfl⟩ | ⟨rfl,rfl⟩ | ⟨rfl,rfl,hY0⟩
 all_goals
  go_wp2_with (at_make;refine wpList_make_full _ rfl _ _ 48 rfl w2.heap.size 109 i0 (.int .u32 0) 1 Tryz.underlying48 hi hz3 hz4 _ _ _ _ l.length rfl rfl (by omega) (by omega) ?b2 ?b3 (Nat.le_refl _) ?_)
  case b2=>rw [hz5];omega
  case b3=>unfold maxLen;omega
  intro w3 hown hgrow;have HB0:Hid (Blk w3 w2.heap.size l.length (limbOf 0) 109):=by
   refine Blk.of_own (base:=w2.heap.size) ?_
   have e:(madeCells #[Value.int IntKind.u32 0] l.length).toList=(List.range l.length).map fun i=>Value.int .u32 ((limbOf 0 i:Nat):Int):=by
    simp [toList_madeCells_one,List.map_const',limbOf_zero]
   rw [<- e];exact hown
  have hb3:Below w2.heap.size w2 w3:=(Below.refl _ _).grown hgrow (Nat.le_refl _) (fun k h=>by cases h);clear hown hgrow
  try clear hY0
  go_wp2_with fail
  refine (HBt.out _ (HU.out.below ((HB2.out.trans (hb3.mono HB2.out.size)).alloc (Nat.le_trans HB2.out.size hb3.size) _))).mono ?_
  rintro e w4 ⟨n,rfl,hn1,hn2,hb4⟩;have HN1:=hid hn1.1;have hb34:=((Below.refl _ w3).alloc (Nat.le_refl _) _).trans (hb4.mono (by simp));have HBk:Hid (Blk w4 w2.heap.size l.length (limbOf (quoAt x y n)) 109):=by
   rw [(at_top HN1.out).2];exact HB0.out.below hb34
  have HB4:=hid (hb3.trans (hb34.mono hb3.size));have hR0:=(at_top (B:=y) HN1.out).1;have HF0:Hid (Far (w2.heap.size+1) (some ⟨w3.heap.size,0,none⟩)):=fun p e=>by cases e;exact HB0.out.lt
  clear HB0 hb3 hb4 hb34 hn1 HBt;go_wp2
  go_loopw [12,13] (fun r i wr=>∃ (k:Nat) (I:Int) (a1:Option Addr) (c1:Nat),k<=n/\I+1=(k:Int)/\i=.int .i64 I/\r=.slice a1 (limbs (remAt x y k)).length c1/\(limbs (remAt x y k)).length<=c1/\Hid (U32s wr a1 (limbs (remAt x y k)))/\Hid (Far (w2.heap.size+1) a1)/\Hid (Blk wr w2.heap.size l.length (limbOf (quoAt x y k)) 109)/\Hid (Below w2.heap.size w2 wr)) (fun _ i _=>(intOf i+1).toNat)
  case atStart=>exact ⟨n,_,_,0,Nat.le_refl _,by omega,rfl,by rw [hR0,limbs_zero];rfl,by rw [hR0,limbs_zero];exact Nat.le_refl _,by unfold Hid;rw [hR0,limbs_zero];exact U32s.nil _ _,HF0,HBk,HB4⟩
  case round=>
   clear hR0 HF0 HBk HB4;obtain ⟨k,I,a1,c1,hk,hI,rfl,rfl,hc1,HR,HF,HBk,HBw⟩:=hrel
   cases k with
   | zero=>
    obtain rfl:I= -1:=by omega
    have hxl:x < 4294967296^l.length:=by rw [<- HX.out];exact lval_lt HU.out.lim
    have hv:lval ((List.range l.length).map (limbOf (quoAt x y 0)))=x / y:=by
     rw [lval_map,valN_limbOf _ _ (Nat.lt_of_le_of_lt (quoAt_le _ _ _) hxl),(at_end x y).2]
    have hU:=HBk.out.u32s (fun i _=>limbOf_lt _ _) (by omega);have hM:=r1Make l.length (by simp) hU (by simp;omega);rw [hv] at hM;simp only [List.length_map,List.length_range] at hM;have HM:=hid hM;rw [(at_end x y).1] at hc1 HR ⊢;clear hM hU hv hxl
    go_wp2_with fail
    refine HM.out.mono ?_
    rintro e w5 ⟨a2,c2,rfl,h2,g2,hb5,hf5⟩;obtain ⟨g3,g4,HB5⟩:=hd3 (HR.out.below hb5) g2 (HB2.out.trans ((HBw.out.trans (hb5.mono HBw.out.size)).mono HB2.out.size));clear HM hb5 hf5 g2;go_wp2
    go_ret3
    exact ⟨a2,c2,a1,c1,rfl,h2,hc1,g4.out,g3.out,HB5.out⟩
   | succ q=>
    obtain rfl:I=(q:Int):=by omega
    have hRy:remAt x y (q+1) < y:=Nat.mod_lt _ HYp.out;have hlR:(limbs (remAt x y (q+1))).length<=m.length:=Nat.le_trans (limbs_len_mono (Nat.le_of_lt hRy)) (by rw [<- HY.out];exact limbs_len_of_lval HG.out.lim);have hS:=r1shl c1 0 1 1 (by omega) (by omega) (by omega) HR.out (lval_limbs _) (by omega);rw [Nat.pow_one] at hS;have HS:=hid hS;clear hS;obtain ⟨p1,o1,rfl,hp1,q1⟩:=(HU.out.below (HB2.out.trans (HBw.out.mono HB2.out.size))).pick (show q / 32 < l.length by omega);have hbit:bits .and .u32 ((dig l (q / 32):Int) / 2^(q % 32)) 1=((bitAt x q:Nat):Int):=by
     rw [<- HX.out,bitAt_dig HU.out.lim,show ((dig l (q / 32):Int) / 2^(q % 32))=((dig l (q / 32) / 2^(q % 32):Nat):Int) by simp,and_one_u32 _ (Nat.lt_of_le_of_lt (Nat.div_le_self _ _) (dig_lt HU.out.lim _))]
    have hdl:=dig_lt HU.out.lim (q / 32);have hB2:=bitAt_lt x q;obtain ⟨HGe,HLt⟩:=hd2 (fun h=>step_ge (A:=x) (B:=y) (i:=q) HYp.out h) (fun h=>step_lt (A:=x) (B:=y) (i:=q) h);generalize hRR:remAt x y (q+1)=R at *;have HRR:=hid hRR;generalize bitAt x q=B at *;generalize dig l (q / 32)=dg at *;clear hRR
    go_wp2_with fail
    refine HS.out.mono ?_
    rintro e w5 ⟨a2,c2,rfl,h2,g2,hb5,hf5⟩;have q2:w5.cell? ⟨p1,o1+q / 32,none⟩=_:=(hb5.cell hp1).trans q1;obtain ⟨g3,HB5,HF5⟩:=hd3 g2 hb5 hf5;clear HS hb5 hf5 g2 q1;have hl2:(limbs (R * 2)).length<=m.length+1:=dbl_len (b:=0) hlR (by omega);have hl3:=dbl_len hlR hB2;have hA:=r1Add (w:=w5.alloc (.cells #[.int .u32 (B:Int)] 109)) c2 1 (g3.out.below ((Below.refl _ _).alloc (Nat.le_refl _) _)) (U32s.one w5 (by omega) _) (lval_limbs _) (lval_one B) (by omega) (by simp);have HA:=hid hA;clear hA
    go_wp2_with fail
    refine HA.out.mono ?_
    rintro e w6 ⟨a3,c3,rfl,h6,g6,hb6,hf6⟩;have G6:=hid g6;have hb56:=((Below.refl _ w5).alloc (Nat.le_refl _) _).trans (hb6.mono (by simp));have hb26:=HBw.out.trans ((HB5.out.trans (hb56.mono HB5.out.size)).mono HBw.out.size);obtain ⟨HB26,HC6⟩:=hd2 hb26 (r1Cmp c3 d g6 (HG.out.below (HB2.out.trans (hb26.mono HB2.out.size))));rw [lval_limbs,HY.out] at HC6;obtain ⟨HF6,HBk6⟩:=hd2 (hf6.mono (show w2.heap.size+1<=_ from Nat.le_trans (Nat.le_trans HBk.out.lt HB5.out.size) (by simp))) (HBk.out.below (HB5.out.trans (hb56.mono HB5.out.size)));clear HA hb6 hf6 g6 hb56 hb26 g3 HR HBk HBw HB5 HF5 HF hbit q2
    go_wp2_with fail
    refine HC6.out.mono ?_
    rintro e w7 ⟨rfl,rfl⟩;have HGe2:Hid (y<=R * 2+B->remAt x y q=R * 2+B - y/\quoAt x y q=quoAt x y (q+1) ||| 2^q):=fun h=>by
     have:=HGe.out (by omega)
     rwa [Nat.mul_comm 2 R] at this
    have HLt2:Hid (R * 2+B < y->remAt x y q=R * 2+B/\quoAt x y q=quoAt x y (q+1)):=fun h=>by
     have:=HLt.out (by omega)
     rwa [Nat.mul_comm 2 R] at this
    clear HGe HLt HC6 hl2;generalize R * 2+B=N at *
    by_cases hge:y<=N
    ·have hcm:decide (0<=cmpN N y)=true:=by
      apply decide_eq_true
      unfold cmpN;rw [if_neg (by omega)]
      split <;> omega
     have HS:=hid (r1Sub c3 d G6.out (HG.out.below (HB2.out.trans (HB26.out.mono HB2.out.size))) (lval_limbs N) HY.out (by omega) (by omega))
     go_wp2_with fail
     refine HS.out.mono ?_
     rintro e w8 (⟨hlt,_⟩ | ⟨_,hb8,a4,c4,rfl,h8,g8,hf8⟩)
     ·omega
     have HB8:=htr HB26 hb8;have hbk8:=HBk6.out.below hb8;have k1:=hbk8.cell (x:=q / 32) (by omega);have k2:=hbk8.free (q / 32);have hlo:=limbOf_lt (quoAt x y (q+1)) (q / 32);obtain ⟨HBk8,HF8,G8⟩:=hd3 hbk8 (hf8.mono (show w2.heap.size+1<=_ from Nat.le_trans HBk6.out.lt (Nat.le_refl _))) g8;clear HS hb8 hbk8 g8 hf8 HF6 HBk6 HB26 G6 hcm;go_wp2
     go_region
     go_wp2;go_roundw
     case rel=>
      have e:=HGe2.out hge
      refine ⟨q,(q:Int) - 1,a4,c4,by omega,by omega,rfl,by rw [e.1],by rw [e.1];exact h8,by rw [e.1];exact (G8.out.setFar HF8.out _ _).drewN 1,HF8,?_,((HB8.out.setCell (Nat.le_refl _) _).drew)⟩
      unfold Hid;rw [e.2,or_bit hlo (Nat.mod_lt _ (by omega))];exact ((HBk8.out.set (q / 32) _).congr (fun i _=>by rw [limbOf_or];by_cases hi:i=q / 32 <;> simp [hi])).drewN 1
     case measure=>simp [intOf]
    ·have hcm:decide (0<=cmpN N y)=false:=by
      apply decide_eq_false
      unfold cmpN;rw [if_pos (by omega)];omega
     go_wp2;go_roundw
     case rel=>
      have e:=HLt2.out (by omega)
      refine ⟨q,(q:Int) - 1,a3,c3,by omega,by omega,rfl,by rw [e.1],by rw [e.1];exact h6,by rw [e.1];exact G6,HF6,by rw [e.2];exact HBk6,HB26⟩
     case measure=>simp [intOf]
theorem r1DivMod {w:World} {a b:Option Addr} {l m:List Nat} {x y:Nat} (c d:Nat) (hc:l.length<=c) (hd:m.length<=d) (h:U32s w a l) (g:U32s w b m) (hx:lval l=x) (hy:lval m=y) (hr:l.length<=2097152) (hr2:m.length<=2097152) (hy0:0 < y):
  Calls Tryz.prog 106 #[.slice a l.length c,.slice b m.length d] w (RetDM w x y):=by
 by_cases h12:(limbs x).length<=2/\(limbs y).length<=2
 ·exact r1DivMod_small c d hc hd h g hx hy hr hr2 hy0 h12.1 h12.2
 ·exact r1DivMod_long c d hc hd h g hx hy hr hr2 hy0 h12
theorem r1Gcd {w:World} {a b:Option Addr} {l m:List Nat} {x y:Nat} (c d:Nat) (hc:l.length<=c) (hd:m.length<=d) (h:U32s w a l) (g:U32s w b m) (hx:lval l=x) (hy:lval m=y) (hr:l.length<=2097152) (hr2:m.length<=2097152):
  Calls Tryz.prog 105 #[.slice a l.length c,.slice b m.length d] w (RetN w (Nat.gcd x y)):=by
 have hA:=r1Make c hc h (by omega);rw [hx] at hA;obtain ⟨HA,HB⟩:=hd2 hA (fun wv (hu:U32s wv b m)=>r1Make d hd hu (by omega));rw [hy] at HB;have HG:=hid g;have hle:(limbs x).length<=l.length:=by rw [<- hx];exact limbs_len_of_lval h.lim
 have hle2:(limbs y).length<=m.length:=by rw [<- hy];exact limbs_len_of_lval g.lim
 clear h g hx hy hc hd hA
 go_enter Tryz.func105,Tryz.ntmps105
 go_wp2_with fail
 refine HA.out.mono ?_
 rintro e w1 ⟨a1,c1,rfl,hc1,ha1,hb1,_⟩;obtain ⟨HB2,HA1,HBe⟩:=hd3 (HB.out w1 (HG.out.below hb1)) ha1 hb1;clear HA HB ha1 hb1
 go_wp2_with fail
 refine HB2.out.mono ?_
 rintro e w2 ⟨b1,d1,rfl,hd1,hb2,hbb2,_⟩;obtain ⟨HA2,HB3⟩:=hd2 (HA1.out.below hbb2) hb2;have HBw:=htr HBe hbb2;clear HB2 hb2 hbb2 HA1 HBe;go_wp2
 go_loopg [0,1] y (fun k p q wr=>∃ (A B:Nat) (a1 b1:Option Addr) (c1 d1:Nat),k=B/\p=.slice a1 (limbs A).length c1/\q=.slice b1 (limbs B).length d1/\(limbs A).length<=c1/\(limbs B).length<=d1/\(limbs A).length<=2097152/\(limbs B).length<=2097152/\Hid (U32s wr a1 (limbs A))/\Hid (U32s wr b1 (limbs B))/\Hid (Nat.gcd A B=Nat.gcd x y)/\Below w.heap.size w wr)
 case atStart=>exact ⟨x,y,a1,b1,c1,d1,rfl,rfl,rfl,hc1,hd1,by omega,by omega,HA2,HB3,rfl,HBw.out⟩
 case round=>
  clear HA2 HB3 hc1 hd1 hle hle2 hr hr2 HBw;obtain ⟨A,B,a1,b1,c1,d1,hgk,rfl,rfl,hc1,hd1,hrA,hrB,HA1,HB1,HG,hb⟩:=hrel;have HGk:=hid hgk;clear hgk
  by_cases h0:B=0
  ·subst h0;have HG0:Hid (A=Nat.gcd x y):=by have:=HG.out;rw [Nat.gcd_zero_right] at this;exact this
   rw [limbs_zero] at *;go_wp2;go_ret
   refine ⟨a1,c1,?_,?_,?_,hb⟩
   ·rw [<- HG0.out];rfl
   ·rw [<- HG0.out];exact hc1
   ·rw [<- HG0.out];exact HA1.out
  ·have hB0:0 < B:=Nat.pos_of_ne_zero h0;have hlB:=limbs_pos_iff.2 hB0;have HD:=hid (r1DivMod c1 d1 hc1 hd1 HA1.out HB1.out (lval_limbs A) (lval_limbs B) hrA hrB hB0);clear h0
   go_wp2_with fail
   refine HD.out.mono ?_
   rintro e w' ⟨a2,c2,a3,c3,rfl,h3,h4,h5,h6,h7⟩;obtain ⟨H6,HB2⟩:=hd2 h6 (HB1.out.below h7);have hb2:=hb.trans (h7.mono hb.size);clear HD h5 h6 h7 HA1 HB1 hb;go_wp2
   go_roundg (A % B)
   case measure=>rw [HGk.out];exact Nat.mod_lt _ hB0
   case rel=>
    refine ⟨B,A % B,b1,a3,d1,c3,rfl,rfl,rfl,hd1,h4,hrB,Nat.le_trans (mod_len A hB0) hrB,HB2,H6,?_,hb2⟩
    unfold Hid;rw [<- HG.out,Nat.gcd_comm A B,Nat.gcd_rec B A,Nat.gcd_comm]
structure IntC (w:World) (v:Value) (z:Int):Prop where
 ex:∃ (a:Option Addr) (c:Nat),v=.agg #[.bool (decide (z < 0)),.slice a (limbs z.natAbs).length c]/\(limbs z.natAbs).length<=c/\U32s w a (limbs z.natAbs)
def RetZ (w:World) (z:Int) (e:Ending) (w':World):Prop:=∃ v,e=.returned v/\IntC w' v z/\Below w.heap.size w w'
theorem sgn_neg_iff (neg:Bool) (n:Nat):decide (sgn neg n < 0)=(neg && decide (n ≠ 0)):=by
 cases neg
 ·simp [sgn]
 ·by_cases h:n=0
  ·simp [sgn,h]
  ·simp [sgn,h];omega
theorem IntC.mk' {w:World} {a:Option Addr} {c n:Nat} {neg:Bool} (h1:(limbs n).length<=c) (h2:U32s w a (limbs n)):IntC w (.agg #[.bool (neg && decide (n ≠ 0)),.slice a (limbs n).length c]) (sgn neg n):=
 ⟨a,c,by rw [sgn_neg_iff,sgn_natAbs],by rw [sgn_natAbs];exact h1,by rw [sgn_natAbs];exact h2⟩
theorem r2Make {w:World} {a:Option Addr} {l:List Nat} (neg:Bool) {n:Nat} (c:Nat) (hc:l.length<=c) (h:U32s w a l) (hx:lval l=n) (hr:l.length<=17592186044416):
  Calls Tryz.prog 76 #[.bool neg,.slice a l.length c] w (RetZ w (sgn neg n)):=by
 have hB0:=blA w (.cells #[.bool false,.slice none 0 0] 89);have hM:=r1Make c hc (h.below hB0) (by omega);rw [hx] at hM;have HM:=hid hM;have hR:=Box2.alloc w (.bool false) (.slice none 0 0) 89;have hN:=NoInt.alloc w #[.bool false,.slice none 0 0] 89 (by simp);obtain ⟨HB,HR,HN⟩:=hd3 hB0 hR hN;clear h hx hB0 hR hN hM
 go_enter Tryz.func76,Tryz.ntmps76
 go_wp2_with fail
 refine HM.out.mono ?_
 rintro e w1 ⟨a1,c1,rfl,h1,h2,hb,_⟩;obtain ⟨r0,r1,rf,rlt⟩:=HR.out.below hb;have HN1:=hid (HN.out.below hb (by simp));have HB1:=htr HB hb;have H2:=hid h2;clear HM HR HN HB h2 hb
 by_cases hn:n=0
 ·subst hn;have hll:(limbs 0).length=0:=by rw [limbs_zero];rfl
  have hs:sgn neg 0=0:=by cases neg <;> rfl
  rw [hs];rw [limbs_zero] at *;clear hs hll;have HC:Hid (∀ w',IntC w' (.agg #[.bool false,.slice a1 0 c1]) 0):=fun w'=>⟨a1,c1,by simp [limbs_zero],by simp [limbs_zero],by simp [limbs_zero];exact U32s.nil _ _⟩
  cases neg <;>
  ·go_wp2;have hbf:=(HB1.out.setCell (p:=⟨w.heap.size,0,none⟩) (Nat.le_refl _) (.bool false)).setCell (p:=⟨w.heap.size,1,none⟩) (Nat.le_refl _) (.slice a1 0 c1);exact bodyPost_ret (v:=.agg #[.bool false,.slice a1 0 c1]) (by simp [results,Tryz.results76,go_sem,r0,r1]) rfl ⟨_,rfl,HC.out _,hbf⟩
 ·have hp:=limbs_pos_iff.2 (Nat.pos_of_ne_zero hn);have HDn:=hid (decide_eq_true hn);have hd:decide (0 < (limbs n).length)=true:=decide_eq_true hp;have HC:Hid (∀ w':World,U32s w' a1 (limbs n)->IntC w' (.agg #[.bool neg,.slice a1 (limbs n).length c1]) (sgn neg n)):=fun w' h=>by
   have:=IntC.mk' (neg:=neg) h1 h
   rwa [HDn.out,Bool.and_true] at this
  clear hn;cases neg <;>
  ·go_wp2;have hU:∀ B:Bool,U32s ((w1.setCell ⟨w.heap.size,0,none⟩ (.bool B)).setCell ⟨w.heap.size,1,none⟩ (.slice a1 (limbs n).length c1)) a1 (limbs n):=fun B=>(H2.out.setCell HN1.out _ _).setCell (HN1.out.setCell _ _ (by simp)) _ _
   have hbf:=fun B:Bool=>(HB1.out.setCell (p:=⟨w.heap.size,0,none⟩) (Nat.le_refl _) (.bool B)).setCell (p:=⟨w.heap.size,1,none⟩) (Nat.le_refl _) (.slice a1 (limbs n).length c1)
   first
    | exact bodyPost_ret (v:=.agg #[.bool false,.slice a1 (limbs n).length c1]) (by simp [results,Tryz.results76,go_sem,r0,r1]) rfl ⟨_,rfl,HC.out _ (hU _),hbf _⟩
    | exact bodyPost_ret (v:=.agg #[.bool true,.slice a1 (limbs n).length c1]) (by simp [results,Tryz.results76,go_sem,r0,r1]) rfl ⟨_,rfl,HC.out _ (hU _),hbf _⟩
theorem neg_u64 {x:Int} (h1: -9223372036854775808<=x) (h2:x < 0):IntKind.u64.wrap (-IntKind.u64.wrap x)=((x.natAbs:Nat):Int):=by
 rw [IntKind.wrap_u64,IntKind.wrap_u64];omega
theorem limbs_len64 {n:Nat} (h:n < 18446744073709551616):(limbs n).length<=2:=limbs_len_le (Nat.lt_of_lt_of_le h (by decide))
theorem r2Of (w:World) (x:Int) (h1: -9223372036854775808<=x) (h2:x<=9223372036854775807):
  Calls Tryz.prog 47 #[.int .i64 x] w (RetZ w x):=by
 have hR:=Box2.alloc w (.bool false) (.slice none 0 0) 89;have hN:=NoInt.alloc w #[.bool false,.slice none 0 0] 89 (by simp);obtain ⟨HR,HN⟩:=hd2 hR hN;clear hR hN
 by_cases hx:x < 0
 ·have hO:=fun wv=>r1Of x.natAbs (by omega) wv
  rw [<- neg_u64 h1 hx] at hO;have HO:=hid hO;have HX:Hid (sgn true x.natAbs=x):=by unfold Hid sgn;simp;omega
  have hlen:=limbs_len64 (n:=x.natAbs) (by omega);clear hO
  go_enter Tryz.func47,Tryz.ntmps47
  go_wp2_with fail
  refine (HO.out _).mono ?_
  rintro e w1 ⟨a1,c1,rfl,g1,g2,g3,_⟩;have hM:=r2Make true c1 g1 g2 (lval_limbs _) (by omega);rw [HX.out] at hM;obtain ⟨HM,HB,HR1,HN1⟩:=hd4 hM (((Below.refl _ w).alloc (Nat.le_refl _) (.cells #[.bool false,.slice none 0 0] 89)).trans (g3.mono (by simp))) (HR.out.below g3) (HN.out.below g3 (by simp));clear HO hM g2 g3 HR HN
  go_wp2_with fail
  refine HM.out.mono ?_
  rintro e w2 ⟨v2,rfl,⟨a2,c2,rfl,k1,k2⟩,hb2⟩;obtain ⟨r0,r1,rf,rlt⟩:=HR1.out.below hb2;have HN2:=hid (HN1.out.below hb2 HR1.out.lt);have HB2:=htr HB hb2;have K2:=hid k2;clear HM k2 hb2 HR1 HN1 HB;generalize hB:decide (x < 0)=B at *;have HBB:=hid hB;generalize hL:limbs x.natAbs=L at *;have HLL:=hid hL;clear hB hL HX;go_wp2;have hU:U32s ((w2.setCell ⟨w.heap.size,0,none⟩ (.bool B)).setCell ⟨w.heap.size,1,none⟩ (.slice a2 L.length c2)) a2 L:=(K2.out.setCell HN2.out _ _).setCell (HN2.out.setCell _ _ (by simp)) _ _;have hbf:=(HB2.out.setCell (p:=⟨w.heap.size,0,none⟩) (Nat.le_refl _) (.bool B)).setCell (p:=⟨w.heap.size,1,none⟩) (Nat.le_refl _) (.slice a2 L.length c2);exact bodyPost_ret (v:=.agg #[.bool B,.slice a2 L.length c2]) (by simp [results,Tryz.results47,go_sem,r0,r1]) rfl ⟨_,rfl,⟨a2,c2,by rw [HBB.out,HLL.out],by rw [HLL.out];exact k1,by rw [HLL.out];exact hU⟩,hbf⟩
 ·obtain ⟨n,rfl⟩:∃ n:Nat,x=(n:Int):=⟨x.toNat,by omega⟩
  have HO:=hid (fun wv=>r1Of n (by omega) wv);have HX:Hid (sgn false n=(n:Int)):=rfl;have hlen:=limbs_len64 (n:=n) (by omega)
  go_enter Tryz.func47,Tryz.ntmps47
  go_wp2_with fail
  refine (HO.out _).mono ?_
  rintro e w1 ⟨a1,c1,rfl,g1,g2,g3,_⟩;have hM:=r2Make false c1 g1 g2 (lval_limbs _) (by omega);rw [HX.out] at hM;obtain ⟨HM,HB,HR1,HN1⟩:=hd4 hM (((Below.refl _ w).alloc (Nat.le_refl _) (.cells #[.bool false,.slice none 0 0] 89)).trans (g3.mono (by simp))) (HR.out.below g3) (HN.out.below g3 (by simp));clear HO hM g2 g3 HR HN
  go_wp2_with fail
  refine HM.out.mono ?_
  rintro e w2 ⟨v2,rfl,⟨a2,c2,rfl,k1,k2⟩,hb2⟩;obtain ⟨r0,r1,rf,rlt⟩:=HR1.out.below hb2;have HN2:=hid (HN1.out.below hb2 HR1.out.lt);have HB2:=htr HB hb2;have K2:=hid k2;clear HM k2 hb2 HR1 HN1 HB;generalize hB:decide ((n:Int) < 0)=B at *;have HBB:=hid hB;generalize hL:limbs (n:Int).natAbs=L at *;have HLL:=hid hL;clear hB hL HX;go_wp2;have hU:U32s ((w2.setCell ⟨w.heap.size,0,none⟩ (.bool B)).setCell ⟨w.heap.size,1,none⟩ (.slice a2 L.length c2)) a2 L:=(K2.out.setCell HN2.out _ _).setCell (HN2.out.setCell _ _ (by simp)) _ _;have hbf:=(HB2.out.setCell (p:=⟨w.heap.size,0,none⟩) (Nat.le_refl _) (.bool B)).setCell (p:=⟨w.heap.size,1,none⟩) (Nat.le_refl _) (.slice a2 L.length c2);exact bodyPost_ret (v:=.agg #[.bool B,.slice a2 L.length c2]) (by simp [results,Tryz.results47,go_sem,r0,r1]) rfl ⟨_,rfl,⟨a2,c2,by rw [HBB.out,HLL.out],by rw [HLL.out];exact k1,by rw [HLL.out];exact hU⟩,hbf⟩
theorem r2Sign {w:World} {v:Value} {neg:Bool} {n k:Nat} (h:IntV w v neg n k) (hr:k<=17592186044416):
  Calls Tryz.prog 103 #[v] w fun e w'=>e=.returned (.int .i64 (signZ neg n))/\Below w.heap.size w w':=by
 obtain ⟨a,c,l,rfl,h1,h2,h3,h4⟩:=h.ex;have hB0:=blA w (.cells #[.bool neg,.slice a l.length c] 89);obtain ⟨HM,HB⟩:=hd2 (r2Make neg c h1 (h2.below hB0) h3 (by omega)) hB0;have hR:=Box2.alloc w (.bool neg) (.slice a l.length c) 89;have HR:=hid hR;have hl:=h2.len;clear h h2 hB0 hR h3
 go_enter Tryz.func103,Tryz.ntmps103
 go_wp2_with fail
 refine HM.out.mono ?_
 rintro e w1 ⟨v1,rfl,⟨a1,c1,rfl,g1,g2⟩,hb⟩;obtain ⟨r0,r1,rf,rlt⟩:=HR.out.below hb;have f0:=rf 0;have f1:=rf 1;have HB1:=htr HB hb;rw [sgn_natAbs,sgn_neg_iff];clear HM HR HB hb g2 rf
 by_cases hn:n=0
 ·subst hn;have HS:Hid (signZ neg 0=0):=rfl;rw [limbs_zero] at *;go_wp2;go_ret;exact ⟨ret_int HS.out.symm,(HB1.out.setCell (Nat.le_refl _) _).setCell (Nat.le_refl _) _⟩
 ·have hp:=limbs_pos_iff.2 (Nat.pos_of_ne_zero hn);have HS:Hid (signZ neg n=if neg then -1 else 1):=by unfold Hid signZ;rw [if_neg hn]
  have hz:(((limbs n).length:Int)==0)=false:=by rw [beq_eq_false_iff_ne];omega
  have hn1:=decide_eq_true hn;rw [sgn_natAbs] at g1;cases neg <;>
  ·go_wp2;go_ret;exact ⟨ret_int (by rw [HS.out];rfl),(HB1.out.setCell (Nat.le_refl _) _).setCell (Nat.le_refl _) _⟩
theorem r3one {w:World} {a:Option Addr} {l:List Nat} (c:Nat) (hc:l.length<=c) (h:U32s w a l) (hr:l.length<=17592186044416):Calls Tryz.prog 75 #[.slice a l.length c] w (RetU w (underN l) (l.length+1)):=by
 have hM:=hid (r1Make c hc h (by omega));have hle:=limbs_len_of_lval h.lim;have hl:=h.len;clear h
 go_enter Tryz.func75,Tryz.ntmps75
 go_wp2_with fail
 refine hM.out.mono ?_
 rintro e w1 ⟨a1,c1,rfl,h1,h2,h3,_⟩;obtain ⟨H2,H3⟩:=hd2 h2 h3;clear hM h2 h3
 by_cases hn:lval l=0
 ·have HU:Hid (underN l=1):=if_pos hn;rw [hn,limbs_zero] at *;clear hn;go_wp2;go_ret;exact ⟨_,1,[1],rfl,Nat.le_refl _,U32s.one w1 (b:=1) (by omega) _,by rw [HU.out];rfl,by simp,H3.out.alloc H3.out.size _⟩
 ·have HU:Hid (underN l=lval l):=if_neg hn;have hp:=limbs_pos_iff.2 (Nat.pos_of_ne_zero hn);have hz:(((limbs (lval l)).length:Int)==0)=false:=by rw [beq_eq_false_iff_ne];omega
  clear hn;go_wp2;go_ret;exact ⟨a1,c1,limbs (lval l),rfl,h1,H2.out,by rw [HU.out,lval_limbs],by omega,H3.out⟩
theorem RatV.store {w:World} {g:Nat} {x:RatL} {bn bd:Option Addr} {m1 m2:Nat} (hN:NoInt w g) (h1:x.num.length<=m1) (h2:x.den.length<=m2) (k5:U32s w bn x.num) (k6:U32s w bd x.den):
  RatV (((w.setCell ⟨g,0,none⟩ (.bool x.neg)).setCell ⟨g,1,none⟩ (.slice bn x.num.length m1)).setCell ⟨g,2,none⟩ (.slice bd x.den.length m2)) (.agg #[.bool x.neg,.slice bn x.num.length m1,.slice bd x.den.length m2]) x:=by
 refine ⟨bn,bd,m1,m2,rfl,h1,h2,?_,?_⟩
 ·exact ((k5.setCell hN _ _).setCell (hN.setCell _ _ (by simp)) _ _).setCell ((hN.setCell _ _ (by simp)).setCell _ _ (by simp)) _ _
 ·exact ((k6.setCell hN _ _).setCell (hN.setCell _ _ (by simp)) _ _).setCell ((hN.setCell _ _ (by simp)).setCell _ _ (by simp)) _ _
theorem below_store3 {n g:Nat} {w w':World} (h:Below n w w') (hg:n<=g) (p q r:Value):Below n w (((w'.setCell ⟨g,0,none⟩ p).setCell ⟨g,1,none⟩ q).setCell ⟨g,2,none⟩ r):=
 ((h.setCell (p:=⟨g,0,none⟩) hg p).setCell (p:=⟨g,1,none⟩) hg q).setCell (p:=⟨g,2,none⟩) hg r
theorem limbs_one:limbs 1=[1]:=by rw [limbs_pos (by omega),limbs_zero]
theorem r3quot {w:World} {a b:Option Addr} {l m:List Nat} (neg:Bool) (c e:Nat) (hc:l.length<=c) (he:m.length<=e) (h:U32s w a l) (g:U32s w b m) {n d:Nat} (hx:lval l=n) (hy:lval m=d) (hr:l.length<=2097152) (hr2:m.length<=2097152) (hd:0 < d):
  Calls Tryz.prog 74 #[.bool neg,.slice a l.length c,.slice b m.length e] w (RetR w (quotN neg n d)):=by
 have hR:=Box3.alloc w (.bool false) (.slice none 0 0) (.slice none 0 0) 51;have hN:=NoInt.alloc w #[.bool false,.slice none 0 0,.slice none 0 0] 51 (by simp);have hB0:=blA w (zerO 51);have HG:=hid (r1Gcd c e hc he (h.below hB0) (g.below hB0) hx hy hr hr2);have hgp:0 < Nat.gcd n d:=Nat.gcd_pos_of_pos_right n hd;have hgl:(limbs (Nat.gcd n d)).length<=m.length:=by
  refine Nat.le_trans (limbs_len_mono (Nat.gcd_le_right n hd)) ?_
  rw [<- hy];exact limbs_len_of_lval g.lim
 have hD1:=fun wv (hu:U32s wv a l) a1 c1 hc1 (hg:U32s wv a1 (limbs (Nat.gcd n d)))=>r1DivMod c c1 hc hc1 hu hg hx (lval_limbs _) hr (by omega) hgp
 have hD2:=fun wv (hu:U32s wv b m) a1 c1 hc1 (hg:U32s wv a1 (limbs (Nat.gcd n d)))=>r1DivMod e c1 he hc1 hu hg hy (lval_limbs _) hr2 (by omega) hgp
 obtain ⟨HD1,HD2,HR,HN,HB0,HH⟩:=hd6 hD1 hD2 hR hN hB0 (h.below hB0);have HGG:=hid (g.below hB0);have HQ:Hid (quotN neg n d=⟨neg && decide (0 < (limbs (n / Nat.gcd n d)).length),limbs (n / Nat.gcd n d),if d / Nat.gcd n d=1 then [] else limbs (d / Nat.gcd n d)⟩):=by
  unfold Hid quotN
  congr 2
  rw [decide_eq_decide,limbs_pos_iff];obtain ⟨k,hk⟩:=Nat.gcd_dvd_left n d;generalize Nat.gcd n d=G at *;subst hk;rw [Nat.mul_div_cancel_left _ hgp]
  constructor
  ·intro h;exact Nat.pos_of_ne_zero (fun e=>h (by rw [e,Nat.mul_zero]))
  ·intro h e
   rcases Nat.mul_eq_zero.1 e with h1 | h1 <;> omega
 have hdp:0 < d / Nat.gcd n d:=Nat.div_pos (Nat.gcd_le_right n hd) hgp;clear h g hx hy hR hN hB0 hD1 hD2 hd;generalize Nat.gcd n d=G at *
 go_enter Tryz.func74,Tryz.ntmps74
 go_wp2_with fail
 refine HG.out.mono ?_
 rintro ee w1 ⟨a1,c1,rfl,h1,h2,hb1⟩;obtain ⟨D1,HG1,H2,HR1,HN1⟩:=hd5 (HD1.out w1 (HH.out.below hb1) a1 c1 h1 h2) (HGG.out.below hb1) h2 (HR.out.below hb1) (HN.out.below hb1 HR.out.lt);have HB1:=htr HB0 hb1;clear HG HH HGG h2 HR HN HB0 hb1 HD1
 go_wp2_with fail
 refine D1.out.mono ?_
 rintro ee w2 ⟨a2,c2,a2',c2',rfl,k1,k2,k3,k4,hb2⟩;obtain ⟨D2,K3,HR2,HN2⟩:=hd4 (HD2.out w2 (HG1.out.below hb2) a1 c1 h1 (H2.out.below hb2)) k3 (HR1.out.below hb2) (HN1.out.below hb2 HR1.out.lt);have HB2:=htr HB1 hb2;clear D1 HG1 H2 HR1 HN1 HB1 k3 k4 hb2 HD2
 go_wp2_with fail
 refine D2.out.mono ?_
 rintro ee w3 ⟨a3,c3,a3',c3',rfl,j1,j2,j3,j4,hb3⟩;obtain ⟨K3',J3⟩:=hd2 (K3.out.below hb3) j3;obtain ⟨r0,r1,r2,rf,rlt⟩:=HR2.out.below hb3;have HN3:=hid (HN2.out.below hb3 HR2.out.lt);have HB3:=htr HB2 hb3;have hj:=hid j3;clear D2 K3 HR2 HN2 HB2 j4 hb3;generalize limbs (n / G)=L at *;have hneg:∀ B:Bool,B=(neg && decide (0 < L.length))->True:=fun _ _=>trivial
 clear hneg
 by_cases h1:d / G=1
 ·have HQ1:=hid (HQ.out);rw [if_pos h1] at HQ1;have hl1:(limbs (d / G)).length=1:=by rw [h1,limbs_one];rfl
  obtain ⟨p1,o1,rfl,hp1,q1⟩:=j3.pick (show 0 < (limbs (d / G)).length by omega);have hdg:dig (limbs (d / G)) 0=1:=by rw [h1,limbs_one];rfl
  rw [hdg,Nat.add_zero] at q1;have hbe:∀ B:Bool,Below w.heap.size w (((w3.setCell ⟨w.heap.size,0,none⟩ (.bool B)).setCell ⟨w.heap.size,1,none⟩ (.slice a2 L.length c2)).setCell ⟨w.heap.size,2,none⟩ (.slice none 0 0)):=fun B=>below_store3 HB3.out (Nat.le_refl _) _ _ _
  have hst:=fun B:Bool=>RatV.store (x:=⟨B,L,[]⟩) (bd:=none) (m2:=0) HN3.out k1 (Nat.le_refl _) K3'.out (U32s.nil _ _)
  obtain ⟨HBE,HST⟩:=hd2 hbe hst;rw [hl1] at j1 ⊢;clear hl1 hdg h1 j3 hbe hst;cases hL:decide (0 < L.length)
  ·cases neg <;>
   ·go_wp2;exact bodyPost_ret (v:=.agg #[.bool false,.slice a2 L.length c2,.slice none 0 0]) (by simp [results,Tryz.results74,go_sem,r0,r1,r2]) rfl ⟨_,rfl,by rw [HQ1.out,hL];exact HST.out false,HBE.out false⟩
  ·cases neg
   ·go_wp2;exact bodyPost_ret (v:=.agg #[.bool false,.slice a2 L.length c2,.slice none 0 0]) (by simp [results,Tryz.results74,go_sem,r0,r1,r2]) rfl ⟨_,rfl,by rw [HQ1.out,hL];exact HST.out false,HBE.out false⟩
   ·go_wp2;exact bodyPost_ret (v:=.agg #[.bool true,.slice a2 L.length c2,.slice none 0 0]) (by simp [results,Tryz.results74,go_sem,r0,r1,r2]) rfl ⟨_,rfl,by rw [HQ1.out,hL];exact HST.out true,HBE.out true⟩
 ·have HQ1:=hid (HQ.out);rw [if_neg h1] at HQ1;have hbe:∀ B:Bool,Below w.heap.size w (((w3.setCell ⟨w.heap.size,0,none⟩ (.bool B)).setCell ⟨w.heap.size,1,none⟩ (.slice a2 L.length c2)).setCell ⟨w.heap.size,2,none⟩ (.slice a3 (limbs (d / G)).length c3)):=fun B=>below_store3 HB3.out (Nat.le_refl _) _ _ _
  have hst:=fun B:Bool=>RatV.store (x:=⟨B,L,limbs (d / G)⟩) HN3.out k1 j1 K3'.out J3.out
  obtain ⟨HBE,HST⟩:=hd2 hbe hst
  by_cases hl1:(limbs (d / G)).length=1
  ·obtain ⟨p1,o1,rfl,hp1,q1⟩:=j3.pick (show 0 < (limbs (d / G)).length by omega);have hd1:=limbs_len1 hl1;have hne:((dig (limbs (d / G)) 0:Int)==1)=false:=by rw [beq_eq_false_iff_ne];omega
   rw [Nat.add_zero] at q1;generalize dig (limbs (d / G)) 0=dg at *;clear h1 j3 hbe hst hd1 hdp;generalize hLd:limbs (d / G)=LD at *;have hst1:=HST.out;have hbe1:=HBE.out;simp only [hl1] at hst1 hbe1;obtain ⟨HST1,HBE1⟩:=hd2 hst1 hbe1;rw [hl1] at j1 ⊢;clear hLd hl1 hst1 hbe1;cases hL:decide (0 < L.length)
   ·cases neg <;>
    ·go_wp2;exact bodyPost_ret (v:=.agg #[.bool false,.slice a2 L.length c2,.slice (some ⟨p1,o1,none⟩) 1 c3]) (by simp [results,Tryz.results74,go_sem,r0,r1,r2]) rfl ⟨_,rfl,by rw [HQ1.out,hL];exact HST1.out false,HBE1.out false⟩
   ·cases neg
    ·go_wp2;exact bodyPost_ret (v:=.agg #[.bool false,.slice a2 L.length c2,.slice (some ⟨p1,o1,none⟩) 1 c3]) (by simp [results,Tryz.results74,go_sem,r0,r1,r2]) rfl ⟨_,rfl,by rw [HQ1.out,hL];exact HST1.out false,HBE1.out false⟩
    ·go_wp2;exact bodyPost_ret (v:=.agg #[.bool true,.slice a2 L.length c2,.slice (some ⟨p1,o1,none⟩) 1 c3]) (by simp [results,Tryz.results74,go_sem,r0,r1,r2]) rfl ⟨_,rfl,by rw [HQ1.out,hL];exact HST1.out true,HBE1.out true⟩
  ·have hne:(((limbs (d / G)).length:Int)==1)=false:=by rw [beq_eq_false_iff_ne];omega
   clear h1 j3 hbe hst hdp hl1;cases hL:decide (0 < L.length)
   ·cases neg <;>
    ·go_wp2;exact bodyPost_ret (v:=.agg #[.bool false,.slice a2 L.length c2,.slice a3 (limbs (d / G)).length c3]) (by simp [results,Tryz.results74,go_sem,r0,r1,r2]) rfl ⟨_,rfl,by rw [HQ1.out,hL];exact HST.out false,HBE.out false⟩
   ·cases neg
    ·go_wp2;exact bodyPost_ret (v:=.agg #[.bool false,.slice a2 L.length c2,.slice a3 (limbs (d / G)).length c3]) (by simp [results,Tryz.results74,go_sem,r0,r1,r2]) rfl ⟨_,rfl,by rw [HQ1.out,hL];exact HST.out false,HBE.out false⟩
    ·go_wp2;exact bodyPost_ret (v:=.agg #[.bool true,.slice a2 L.length c2,.slice a3 (limbs (d / G)).length c3]) (by simp [results,Tryz.results74,go_sem,r0,r1,r2]) rfl ⟨_,rfl,by rw [HQ1.out,hL];exact HST.out true,HBE.out true⟩
theorem r3Canon {w:World} {v:Value} {x:RatL} (h:RatV w v x) (hr:RatLe x 1048576):Calls Tryz.prog 45 #[v] w (RetR w (canonL x)):=by
 obtain ⟨an,ad,cn,cd,hv,h2,h3,h4,h5⟩:=h.ex;obtain ⟨hr1,hr2⟩:=hr;have hl1:=h4.len;have hl2:=h5.len;obtain ⟨H4,H5⟩:=hd2 h4 h5;rw [hv];clear h h4 h5 hv
 go_enter Tryz.func45,Tryz.ntmps45
 go_wp2_with fail
 have hB0:Below w.heap.size w ((w.alloc (ratO x an cn ad cd 51)).alloc (zerO 51)):=
  ((Below.refl _ _).alloc (Nat.le_refl _) _).alloc (by simp) _
 have hX:Box3 ((w.alloc (ratO x an cn ad cd 51)).alloc (zerO 51)) w.heap.size (.bool x.neg) (.slice an x.num.length cn) (.slice ad x.den.length cd):=
  (Box3.alloc w _ _ _ _).below ((Below.refl _ _).alloc (Nat.le_refl _) _)
 have hR:Box3 ((w.alloc (ratO x an cn ad cd 51)).alloc (zerO 51)) (w.heap.size+1) (.bool false) (.slice none 0 0) (.slice none 0 0):=by
  have:=Box3.alloc (w.alloc (ratO x an cn ad cd 51)) (.bool false) (.slice none 0 0) (.slice none 0 0) 51
  simpa using this
 have hN:NoInt ((w.alloc (ratO x an cn ad cd 51)).alloc (zerO 51)) (w.heap.size+1):=by
  have:=NoInt.alloc (w.alloc (ratO x an cn ad cd 51)) #[.bool false,.slice none 0 0,.slice none 0 0] 51 (by simp)
  simpa using this
 generalize (w.alloc (ratO x an cn ad cd 51)).alloc (zerO 51)=W at *;obtain ⟨H52,H42⟩:=hd2 (H5.out.below hB0) (H4.out.below hB0);obtain ⟨x0,x1,x2,xf,xlt⟩:=hX;obtain ⟨HR,HNo,HB⟩:=hd3 hR hN hB0;have xbl:Below W.heap.size W W.drew:=(Below.refl _ _).drew;clear hR hN hB0 xf H5 H4
 go_region_held3 (fun w'=>w'.cell? ⟨w.heap.size,0,none⟩=some (.bool x.neg)/\w'.cell? ⟨w.heap.size,1,none⟩=some (.slice an x.num.length cn)/\w'.cell? ⟨w.heap.size,2,none⟩=some (.slice ad x.den.length cd))
  (first | exact S3_keep x0 x1 x2 xlt ‹Below W.heap.size W _› | go_keep)
  (first
   | (go_at_call 75; have hS := ‹Below W.heap.size W _›; refine (r3one cd h3 (H52.out.below hS) (by omega)).mono ?_; rintro e w1 ⟨a1, c1, l1, rfl, g1, g2, g3, g4, g5⟩
      have hS1:=hS.trans (g5.mono hS.size))
   | (go_at_call 74; have hS := ‹Below W.heap.size W _›; refine (r3quot x.neg cn c1 h2 g1 (H42.out.below hS) g2 rfl g3 (by omega) (by omega) (underN_pos _)).mono ?_
      rintro e w2 ⟨v2,rfl,⟨bn,bd,m1,m2,rfl,k3,k4,k5,k6⟩,k2⟩;have hS2:=hS.trans (k2.mono hS.size);obtain ⟨r0,r1,r2,rf,rlt⟩:=HR.out.below hS2;obtain ⟨hN2,K5,K6⟩:=hd3 (HNo.out.below hS2 HR.out.lt) k5 k6;have hB2:=htr HB hS2))
 go_wp2;exact bodyPost_ret (v:=.agg #[.bool (canonL x).neg,.slice bn (canonL x).num.length m1,.slice bd (canonL x).den.length m2]) (by simp [results,Tryz.results45,go_sem,r0,r1,r2,canonL]) rfl ⟨_,rfl,RatV.store hN2.out k3 k4 K5.out K6.out,below_store3 hB2.out (Nat.le_succ _) _ _ _⟩
structure TwoR (w W:World) (g:Nat) (p q r s t u:Value):Prop where
 a:Box3 W g p q r
 b:Box3 W (g+1) s t u
 c:Box3 W (g+1+1) (.bool false) (.slice none 0 0) (.slice none 0 0)
 nc:NoInt W (g+1+1)
 bl:Below g w W
theorem TwoR.mk' (w:World) (p q r s t u:Value) (T:Nat):TwoR w (((w.alloc (.cells #[p,q,r] T)).alloc (.cells #[s,t,u] T)).alloc (.cells #[.bool false,.slice none 0 0,.slice none 0 0] T)) w.heap.size p q r s t u:=by
 have step:∀ (W:World) (o:Obj),Below W.heap.size W (W.alloc o):=fun W o=>(Below.refl _ _).alloc (Nat.le_refl _) _
 have s1:=step w (.cells #[p,q,r] T);have s2:=step (w.alloc (.cells #[p,q,r] T)) (.cells #[s,t,u] T);have s3:=step ((w.alloc (.cells #[p,q,r] T)).alloc (.cells #[s,t,u] T)) (.cells #[.bool false,.slice none 0 0,.slice none 0 0] T);have b1:=Box3.alloc w p q r T;have b2:=Box3.alloc (w.alloc (.cells #[p,q,r] T)) s t u T;have b3:=Box3.alloc ((w.alloc (.cells #[p,q,r] T)).alloc (.cells #[s,t,u] T)) (.bool false) (.slice none 0 0) (.slice none 0 0) T;have n3:=NoInt.alloc ((w.alloc (.cells #[p,q,r] T)).alloc (.cells #[s,t,u] T)) #[.bool false,.slice none 0 0,.slice none 0 0] T (by simp);have b1':=(b1.below s2).below s3;have b2':=b2.below s3;have bl:=(s1.trans (s2.mono (by simp))).trans (s3.mono (by simp;omega));simp only [World.size_alloc] at b2' b3 n3;exact ⟨b1',b2',b3,n3,bl⟩
theorem r3Mul {w:World} {v u:Value} {x y:RatL} (hv:RatV w v x) (hu:RatV w u y) (hx:RatLe x 1048575) (hy:RatLe y 1048575):
  Calls Tryz.prog 80 #[v,u] w (RetR w (ratL (ratOf x * ratOf y))):=by
 obtain ⟨an,ad,cn,cd,rfl,a2,a3,a4,a5⟩:=hv.ex;obtain ⟨bn,bd,dn,dd,rfl,b2,b3,b4,b5⟩:=hu.ex;have hQ:Hid (ratL (ratOf x * ratOf y)=quotN (x.neg != y.neg) (lval x.num * lval y.num) (underN x.den * underN y.den)):=by
  unfold Hid;rw [quotN_ratL _ _ (Nat.mul_pos (underN_pos _) (underN_pos _)),mulQ];rfl
 obtain ⟨hx1,hx2⟩:=hx;obtain ⟨hy1,hy2⟩:=hy;have hl1:=a4.len;have hl2:=a5.len;have hl3:=b4.len;have hl4:=b5.len;obtain ⟨A4,A5,B4,B5⟩:=hd4 a4 a5 b4 b5;have hml:(limbs (lval x.num * lval y.num)).length<=2097152:=Nat.le_trans (mul_len rfl rfl hx1 hy1 a4.lim b4.lim) (by omega);have hdp:0 < underN x.den * underN y.den:=Nat.mul_pos (underN_pos _) (underN_pos _);have HDp:=hid hdp;clear hv hu a4 a5 b4 b5 hdp
 go_enter Tryz.func80,Tryz.ntmps80
 go_wp2_with fail
 have hF:=TwoR.mk' w (.bool x.neg) (.slice an x.num.length cn) (.slice ad x.den.length cd) (.bool y.neg) (.slice bn y.num.length dn) (.slice bd y.den.length dd) 51;generalize ((w.alloc (ratO x an cn ad cd 51)).alloc (ratO y bn dn bd dd 51)).alloc (zerO 51)=W at *;obtain ⟨HF,HA4,HA5,HB4,HB5⟩:=hd5 hF (A4.out.below hF.bl) (A5.out.below hF.bl) (B4.out.below hF.bl) (B5.out.below hF.bl);have xbl:Below W.heap.size W W.drew:=(Below.refl _ _).drew;have tok1:True:=trivial;have tok2:True:=trivial;clear hF A4 A5 B4 B5
 go_region_held3 (fun w'=>w'.cell? ⟨w.heap.size,0,none⟩=some (.bool x.neg)/\w'.cell? ⟨w.heap.size,1,none⟩=some (.slice an x.num.length cn)/\w'.cell? ⟨w.heap.size,2,none⟩=some (.slice ad x.den.length cd)/\
   w'.cell? ⟨w.heap.size+1,0,none⟩=some (.bool y.neg)/\w'.cell? ⟨w.heap.size+1,1,none⟩=some (.slice bn y.num.length dn)/\w'.cell? ⟨w.heap.size+1,2,none⟩=some (.slice bd y.den.length dd))
  (first | exact S33_keep HF.out.a HF.out.b HF.out.a.lt HF.out.b.lt ‹Below W.heap.size W _› | exact S33_keep (B:=w.heap.size+1+1) HF.out.a HF.out.b (Nat.lt_succ_of_lt (Nat.lt_succ_self _)) (Nat.lt_succ_self _) (below_store3 (hS5.mono (Nat.le_of_lt HF.out.c.lt)) (Nat.le_refl _) _ _ _))
  (first
   | (go_at_call 108; have _t := tok1; clear tok1; have hS := ‹Below W.heap.size W _›; refine (r1Mul cn dn (HA4.out.below hS) (HB4.out.below hS) rfl rfl (by omega)).mono ?_; rintro e w1 ⟨a1, c1, rfl, g1, g2, g3, _⟩
      have hS1:=hS.trans (g3.mono hS.size);have G2:=hid g2;clear g2)
   | (go_at_call 75; have _t := tok2; clear tok2; have hS := ‹Below W.heap.size W _›; refine (r3one cd a3 (HA5.out.below hS) (by omega)).mono ?_; rintro e w2 ⟨a2', c2, l2, rfl, p1, p2, p3, p4, p5⟩
      have hS2:=hS.trans (p5.mono hS.size);have G2b:=hid (G2.out.below p5);have P2:=hid p2;have P3:=hid p3;clear p2 p3)
   | (go_at_call 75; have hS := ‹Below W.heap.size W _›; refine (r3one dd b3 (HB5.out.below hS) (by omega)).mono ?_; rintro e w3 ⟨a3', c3, l3, rfl, q1, q2, q3, q4, q5⟩
      have hS3:=hS.trans (q5.mono hS.size);have G2c:=hid (G2b.out.below q5);have P2b:=hid (P2.out.below q5);have Q2:=hid q2;have Q3:=hid q3;clear q2 q3)
   | (go_at_call 108; have hS := ‹Below W.heap.size W _›; refine (r1Mul c2 c3 P2b.out Q2.out P3.out Q3.out (by omega)).mono ?_; rintro e w4 ⟨a4, c4, rfl, t1, t2, t3, _⟩
      have hS4:=hS.trans (t3.mono hS.size);have G2d:=hid (G2c.out.below t3);have T2:=hid t2;clear t2;have hdl:(limbs (underN x.den * underN y.den)).length<=2097152:=Nat.le_trans (mul_len P3.out Q3.out p4 q4 P2b.out.lim Q2.out.lim) (by omega))
   | (go_at_call 74; have hS := ‹Below W.heap.size W _›; refine (r3quot (x.neg != y.neg) c1 c4 g1 t1 G2d.out T2.out (lval_limbs _) (lval_limbs _) hml hdl HDp.out).mono ?_
      rintro e w5 ⟨v5,rfl,⟨bn',bd',m1,m2,rfl,k3,k4,k5,k6⟩,k2⟩;have hS5:=hS.trans (k2.mono hS.size);obtain ⟨r0,r1,r2,rf,rlt⟩:=HF.out.c.below hS5;obtain ⟨hN5,K5,K6⟩:=hd3 (HF.out.nc.below hS5 HF.out.c.lt) k5 k6;have hB5:=hid (HF.out.bl.trans (hS5.mono (by have:=HF.out.a.lt;omega)))))
 generalize quotN (x.neg != y.neg) (lval x.num * lval y.num) (underN x.den * underN y.den)=R at *;go_wp2;exact bodyPost_ret (v:=.agg #[.bool R.neg,.slice bn' R.num.length m1,.slice bd' R.den.length m2]) (by simp [results,Tryz.results80,go_sem,r0,r1,r2]) rfl ⟨_,rfl,by rw [hQ.out];exact RatV.store hN5.out k3 k4 K5.out K6.out,below_store3 hB5.out (by omega) _ _ _⟩
structure TwoI (w W:World) (g:Nat) (p q r s:Value):Prop where
 a:Box2 W g p q
 b:Box2 W (g+1) r s
 c:Box2 W (g+1+1) (.bool false) (.slice none 0 0)
 nc:NoInt W (g+1+1)
 bl:Below g w W
theorem TwoI.mk' (w:World) (p q r s:Value) (T:Nat):TwoI w (((w.alloc (.cells #[p,q] T)).alloc (.cells #[r,s] T)).alloc (.cells #[.bool false,.slice none 0 0] T)) w.heap.size p q r s:=by
 have step:∀ (W:World) (o:Obj),Below W.heap.size W (W.alloc o):=fun W o=>(Below.refl _ _).alloc (Nat.le_refl _) _
 have s1:=step w (.cells #[p,q] T);have s2:=step (w.alloc (.cells #[p,q] T)) (.cells #[r,s] T);have s3:=step ((w.alloc (.cells #[p,q] T)).alloc (.cells #[r,s] T)) (.cells #[.bool false,.slice none 0 0] T);have b1:=Box2.alloc w p q T;have b2:=Box2.alloc (w.alloc (.cells #[p,q] T)) r s T;have b3:=Box2.alloc ((w.alloc (.cells #[p,q] T)).alloc (.cells #[r,s] T)) (.bool false) (.slice none 0 0) T;have n3:=NoInt.alloc ((w.alloc (.cells #[p,q] T)).alloc (.cells #[r,s] T)) #[.bool false,.slice none 0 0] T (by simp);have b1':=(b1.below s2).below s3;have b2':=b2.below s3;have bl:=(s1.trans (s2.mono (by simp))).trans (s3.mono (by simp;omega));simp only [World.size_alloc] at b2' b3 n3;exact ⟨b1',b2',b3,n3,bl⟩
theorem below_store2 {n g:Nat} {w w':World} (h:Below n w w') (hg:n<=g) (p q:Value):Below n w ((w'.setCell ⟨g,0,none⟩ p).setCell ⟨g,1,none⟩ q):=
 (h.setCell (p:=⟨g,0,none⟩) hg p).setCell (p:=⟨g,1,none⟩) hg q
theorem IntC.store {w:World} {g:Nat} {z:Int} {a:Option Addr} {c:Nat} (hN:NoInt w g) (h1:(limbs z.natAbs).length<=c) (k:U32s w a (limbs z.natAbs)):
  IntC ((w.setCell ⟨g,0,none⟩ (.bool (decide (z < 0)))).setCell ⟨g,1,none⟩ (.slice a (limbs z.natAbs).length c)) (.agg #[.bool (decide (z < 0)),.slice a (limbs z.natAbs).length c]) z:=
 ⟨a,c,rfl,h1,(k.setCell hN _ _).setCell (hN.setCell _ _ (by simp)) _ _⟩
theorem add_len {l m:List Nat} {N:Nat} (hl:Lim l) (hm:Lim m) (h1:l.length<=N) (h2:m.length<=N):(limbs (lval l+lval m)).length<=N+1:=by
 refine limbs_len_le ?_
 have e1:=Nat.lt_of_lt_of_le (lval_lt hl) (Nat.pow_le_pow_right (show 0 < 4294967296 by omega) h1);have e2:=Nat.lt_of_lt_of_le (lval_lt hm) (Nat.pow_le_pow_right (show 0 < 4294967296 by omega) h2);rw [Nat.pow_succ];omega
theorem sgn_add_same (b:Bool) (x y:Nat):sgn b (x+y)=sgn b x+sgn b y:=by cases b <;> simp [sgn] <;> omega
theorem sgn_add_ge {a b:Bool} (h:a ≠ b) {x y:Nat} (hxy:y<=x):sgn a (x - y)=sgn a x+sgn b y:=by
 cases a <;> cases b <;> simp [sgn] at h ⊢ <;> omega
theorem sgn_add_lt {a b:Bool} (h:a ≠ b) {x y:Nat} (hxy:x < y):sgn b (y - x)=sgn a x+sgn b y:=by
 cases a <;> cases b <;> simp [sgn] at h ⊢ <;> omega
theorem r2Add_same {w:World} {v u:Value} {n1:Bool} {x y k1 k2:Nat} (hv:IntV w v n1 x k1) (hu:IntV w u n1 y k2) (hr1:k1<=4194304) (hr2:k2<=4194304):
  Calls Tryz.prog 109 #[v,u] w (RetZ w (sgn n1 x+sgn n1 y)):=by
 obtain ⟨a,c,l,rfl,h1,h2,h3,h4⟩:=hv.ex;obtain ⟨b,d,m,rfl,g1,g2,g3,g4⟩:=hu.ex;have hl1:=h2.len;have hl2:=g2.len;obtain ⟨H2,G2,H3,G3⟩:=hd4 h2 g2 h3 g3;have hsl:(limbs (x+y)).length<=4194305:=by rw [<- h3, <- g3];exact add_len h2.lim g2.lim (by omega) (by omega)
 rw [<- sgn_add_same];clear hv hu h2 g2 h3 g3
 go_enter Tryz.func109,Tryz.ntmps109
 have hF:=TwoI.mk' w (.bool n1) (.slice a l.length c) (.bool n1) (.slice b m.length d) 89;go_wp2;generalize ((w.alloc (.cells #[.bool n1,.slice a l.length c] 89)).alloc (.cells #[.bool n1,.slice b m.length d] 89)).alloc (.cells #[.bool false,.slice none 0 0] 89)=W at *;obtain ⟨HF,HH2,HG2⟩:=hd3 hF (H2.out.below hF.bl) (G2.out.below hF.bl);have xbl:Below W.heap.size W W.drew:=(Below.refl _ _).drew;clear hF H2 G2
 go_region_held3 (fun w'=>w'.cell? ⟨w.heap.size,0,none⟩=some (.bool n1)/\w'.cell? ⟨w.heap.size,1,none⟩=some (.slice a l.length c)/\w'.cell? ⟨w.heap.size+1,0,none⟩=some (.bool n1)/\w'.cell? ⟨w.heap.size+1,1,none⟩=some (.slice b m.length d))
  (first | exact S22_keep HF.out.a HF.out.b ‹Below W.heap.size W _› | exact S22_store HF.out.a HF.out.b ‹Below W.heap.size W _› _ _)
  (first
   | (go_at_call 144; have hS := ‹Below W.heap.size W _›; refine (r1Add c d (HH2.out.below hS) (HG2.out.below hS) H3.out G3.out (by omega) (by omega)).mono ?_; rintro e w1 ⟨a1, c1, rfl, p1, p2, p3, _⟩
      have hS1:=hS.trans (p3.mono hS.size))
   | (go_at_call 76; have hS := ‹Below W.heap.size W _›; refine (r2Make n1 c1 p1 p2 (lval_limbs _) (by omega)).mono ?_
      rintro e w2 ⟨v2,rfl,⟨a3,c3,rfl,q1,q2⟩,q5⟩;have hS2:=hS.trans (q5.mono hS.size);obtain ⟨r0,r1,rf,rlt⟩:=HF.out.c.below hS2;obtain ⟨hN2,Q2⟩:=hd2 (HF.out.nc.below hS2 HF.out.c.lt) q2;have hB2:=hid (HF.out.bl.trans (hS2.mono (by have:=HF.out.a.lt;omega)))))
 obtain ⟨HI,HBf⟩:=hd2 (IntC.store hN2.out q1 Q2.out) (below_store2 (p:=.bool (decide (sgn n1 (x+y) < 0))) (q:=.slice a3 (limbs (sgn n1 (x+y)).natAbs).length c3) hB2.out (show w.heap.size<=w.heap.size+1+1 by omega));generalize decide (sgn n1 (x+y) < 0)=B at *;generalize (limbs (sgn n1 (x+y)).natAbs).length=L at *;go_wp2;exact bodyPost_ret (v:=.agg #[.bool B,.slice a3 L c3]) (by simp [results,Tryz.results109,go_sem,r0,r1]) rfl ⟨_,rfl,HI.out,HBf.out⟩
theorem r2Add_diff {w:World} {v u:Value} {n1 n2:Bool} {x y k1 k2:Nat} (hv:IntV w v n1 x k1) (hu:IntV w u n2 y k2) (hn:n1 ≠ n2) (hr1:k1<=4194304) (hr2:k2<=4194304):
  Calls Tryz.prog 109 #[v,u] w (RetZ w (sgn n1 x+sgn n2 y)):=by
 obtain ⟨a,c,l,rfl,h1,h2,h3,h4⟩:=hv.ex;obtain ⟨b,d,m,rfl,g1,g2,g3,g4⟩:=hu.ex;have hl1:=h2.len;have hl2:=g2.len;obtain ⟨H2,G2,H3,G3⟩:=hd4 h2 g2 h3 g3;have hne:(n1==n2)=false:=by simpa using hn
 have HN:=hid hn;have hlx:(limbs x).length<=4194304:=by have:=limbs_len_of_lval h2.lim;rw [h3] at this;omega
 have hly:(limbs y).length<=4194304:=by have:=limbs_len_of_lval g2.lim;rw [g3] at this;omega
 clear hv hu h2 g2 h3 g3 hn
 go_enter Tryz.func109,Tryz.ntmps109
 have hF:=TwoI.mk' w (.bool n1) (.slice a l.length c) (.bool n2) (.slice b m.length d) 89
 go_wp2_with fail
 generalize ((w.alloc (.cells #[.bool n1,.slice a l.length c] 89)).alloc (.cells #[.bool n2,.slice b m.length d] 89)).alloc (.cells #[.bool false,.slice none 0 0] 89)=W at *;obtain ⟨HF,HH2,HG2⟩:=hd3 hF (H2.out.below hF.bl) (G2.out.below hF.bl);have HS1:=hid (r1Sub c d HH2.out HG2.out H3.out G3.out (by omega) (by omega));clear hF H2 G2 hne
 refine HS1.out.mono ?_
 rintro e w1 (⟨hlt,rfl,hb1⟩ | ⟨hge,hb1,a1,c1,rfl,p1,p2,_⟩)
 ·obtain ⟨r0,r1,rf,rlt⟩:=HF.out.a.below hb1;obtain ⟨s0,s1,sf,slt⟩:=HF.out.b.below hb1;obtain ⟨HB1,HS2⟩:=hd2 hb1 (r1Sub d c (HG2.out.below hb1) (HH2.out.below hb1) G3.out H3.out (by omega) (by omega));clear hb1 HS1 rf sf
  go_wp2_with fail
  refine HS2.out.mono ?_
  rintro e w2 (⟨hlt2,_⟩ | ⟨hge,hb2,a1,c1,rfl,p1,p2,_⟩)
  ·omega
  obtain ⟨r0',r1',rf,rlt'⟩:=HF.out.a.below (HB1.out.trans (hb2.mono HB1.out.size));obtain ⟨s0',s1',sf,slt'⟩:=HF.out.b.below (HB1.out.trans (hb2.mono HB1.out.size));have HB2:=htr HB1 hb2;have hM:=r2Make n2 c1 p1 p2 (lval_limbs _) (by have:=limbs_len_mono (Nat.sub_le y x);omega);rw [sgn_add_lt HN.out hlt] at hM;have HM:=hid hM;clear hM hb2 HS2 p2 HB1 r0 r1 s0 s1 rlt slt rf sf
  go_wp2_with fail
  refine HM.out.mono ?_
  rintro e w3 ⟨v3,rfl,⟨a3,c3,rfl,q1,q2⟩,q5⟩;have hS3:=HB2.out.trans (q5.mono HB2.out.size);obtain ⟨t0,t1,tf,tlt⟩:=HF.out.c.below hS3;obtain ⟨HI,HBf⟩:=hd2 (IntC.store (HF.out.nc.below hS3 HF.out.c.lt) q1 q2) (below_store2 (p:=.bool (decide (sgn n1 x+sgn n2 y < 0))) (q:=.slice a3 (limbs (sgn n1 x+sgn n2 y).natAbs).length c3) (HF.out.bl.trans (hS3.mono (by have:=HF.out.a.lt;omega))) (show w.heap.size<=w.heap.size+1+1 by omega));clear q2 q5 hS3 HM;generalize decide (sgn n1 x+sgn n2 y < 0)=B at *;generalize (limbs (sgn n1 x+sgn n2 y).natAbs).length=L at *;go_wp2;exact bodyPost_ret (v:=.agg #[.bool B,.slice a3 L c3]) (by simp [results,Tryz.results109,go_sem,t0,t1]) rfl ⟨_,rfl,HI.out,HBf.out⟩
 ·obtain ⟨r0,r1,rf,rlt⟩:=HF.out.a.below hb1;obtain ⟨s0,s1,sf,slt⟩:=HF.out.b.below hb1;have HB2:=hid hb1;have hM:=r2Make n1 c1 p1 p2 (lval_limbs _) (by have:=limbs_len_mono (Nat.sub_le x y);omega);rw [sgn_add_ge HN.out hge] at hM;have HM:=hid hM;clear hM hb1 HS1 p2 rf sf
  go_wp2_with fail
  refine HM.out.mono ?_
  rintro e w3 ⟨v3,rfl,⟨a3,c3,rfl,q1,q2⟩,q5⟩;have hS3:=HB2.out.trans (q5.mono HB2.out.size);obtain ⟨t0,t1,tf,tlt⟩:=HF.out.c.below hS3;obtain ⟨HI,HBf⟩:=hd2 (IntC.store (HF.out.nc.below hS3 HF.out.c.lt) q1 q2) (below_store2 (p:=.bool (decide (sgn n1 x+sgn n2 y < 0))) (q:=.slice a3 (limbs (sgn n1 x+sgn n2 y).natAbs).length c3) (HF.out.bl.trans (hS3.mono (by have:=HF.out.a.lt;omega))) (show w.heap.size<=w.heap.size+1+1 by omega));clear q2 q5 hS3 HM;generalize decide (sgn n1 x+sgn n2 y < 0)=B at *;generalize (limbs (sgn n1 x+sgn n2 y).natAbs).length=L at *;go_wp2;exact bodyPost_ret (v:=.agg #[.bool B,.slice a3 L c3]) (by simp [results,Tryz.results109,go_sem,t0,t1]) rfl ⟨_,rfl,HI.out,HBf.out⟩
theorem r2Add {w:World} {v u:Value} {n1 n2:Bool} {x y k1 k2:Nat} (hv:IntV w v n1 x k1) (hu:IntV w u n2 y k2) (hr1:k1<=4194304) (hr2:k2<=4194304):
  Calls Tryz.prog 109 #[v,u] w (RetZ w (sgn n1 x+sgn n2 y)):=by
 by_cases hn:n1=n2
 ·subst hn;exact r2Add_same hv hu hr1 hr2
 ·exact r2Add_diff hv hu hn hr1 hr2
end Go.Proofs.YtfgmmghmmfmdgaaGreat
