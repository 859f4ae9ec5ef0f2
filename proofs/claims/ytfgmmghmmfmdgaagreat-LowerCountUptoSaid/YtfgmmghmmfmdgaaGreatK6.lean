/-
  Contracts of the functions that the statement reaches: NatI, NatJ, NatK, RatA, RatB.
-/
import Derived.Test.YtfgmmghmmfmdgaaGreatK5
import Derived.Test.YtfgmmghmmfmdgaaGreatShelf
import Derived.Lib.ItoaNum
set_option linter.all false
set_option maxRecDepth 100000
set_option maxHeartbeats 3200000
namespace Go.Proofs.YtfgmmghmmfmdgaaGreat
open Go.RowKit
open Go.Lib (hid)
theorem Only.blk {g g' n T:Nat} {w w':World} {f:Nat->Nat} (h:Only g w w') (hne:g' ≠ g) (hb:Blk w g' n f T):Blk w' g' n f T:=by
 unfold Blk at *;exact (h.block g' hne).trans hb
theorem Blk.part {w:World} {g N T:Nat} {f:Nat->Nat} (h:Blk w g N f T) (hf:∀ i,f i < 4294967296) {i m:Nat} (hi:i+m<=N) (hm:m<=9223372036854775807):U32s w (some ⟨g,i,none⟩) ((List.range m).map fun j=>f (i+j)):=by
 refine ⟨?_,by simpa using hm,.inr ⟨g,i,rfl,h.lt,fun j d hj=>?_⟩⟩
 ·intro d hd;simp only [List.mem_map,List.mem_range] at hd;obtain ⟨j,_,rfl⟩:=hd;exact hf _
 ·rw [List.getElem?_map] at hj
  rcases Nat.lt_or_ge j m with hlt | hge
  ·rw [List.getElem?_range hlt] at hj;simp at hj;subst hj;exact h.cell (by omega)
  ·rw [List.getElem?_eq_none (by simpa using hge)] at hj;cases hj
theorem knuth_of {y n s V W k:Nat} (hn:2<=n) (hN:Norm y n s V) (hW:W < V * 4294967296^(k+1)) {u:Nat->Nat} (hu:∀ i,u i < 4294967296) (hv:valN u (n+1)=W / 4294967296^k):Knuth u (dig (limbs V)) n:=by
 have hl:=hN.len (by omega);have e:valN (dig (limbs V)) n=V:=by have:=lval_limbs V;unfold lval at this;rwa [hl] at this
 refine ⟨hn,hu,fun i=>dig_lt (lim_limbs V) i,hN.digit (by omega),?_⟩
 rw [hv,e];exact (div_step hN.pos hW).1
def DivN (w:World) (x y:Nat) (e:Ending) (w':World):Prop:=∃ a1 c1 a2 c2,e=.returned (.tuple #[.slice a1 (limbs (x / y)).length c1,.slice a2 (limbs (x % y)).length c2,.int .i64 0])/\
 (limbs (x / y)).length<=c1/\(limbs (x % y)).length<=c2/\U32s w' a1 (limbs (x / y))/\U32s w' a2 (limbs (x % y))/\Below w.heap.size w w'
theorem nDivMod_less {w:World} {a b:Option Addr} {l m:List Nat} {x y:Nat} (c d:Nat) (hc:l.length<=c) (hd:m.length<=d) (h:U32s w a l) (g:U32s w b m) (hx:lval l=x) (hy:lval m=y) (hr:l.length<=17592186044416) (hxy:x < y):
  Calls Tryz.prog 156 #[.slice a l.length c,.slice b m.length d] w (DivN w x y):=by
 obtain ⟨HA,HB⟩:=hd2 (nTrim_is c hc h hx) (nTrim_is d hd g hy);have hll:=h.len;have hlm:=g.len;have hle:(limbs x).length<=l.length:=by rw [<- hx];exact limbs_len_of_lval h.lim
 have hpos:0 < (limbs y).length:=List.length_pos_iff.2 (fun e=>by have:=limbs_nil.1 e;omega);have hy0:(((limbs y).length:Int)==0)=false:=by rw [beq_eq_false_iff_ne];omega
 have HX:=hid hxy;clear h g hx hy hc hd hxy
 go_enter Tryz.func156,Tryz.ntmps156
 go_wp2_with fail
 refine HA.out.mono ?_
 rintro e w' ⟨⟨a1,c1,rfl,hc1,ha1⟩,rfl⟩
 go_wp2_with fail
 refine HB.out.mono ?_
 rintro e w' ⟨⟨b1,d1,rfl,hd1,hb1⟩,rfl⟩;clear HA HB;have HC:=hid (nCmp c1 d1 hc1 hd1 ha1 hb1 (lval_limbs x) (lval_limbs y));rw [cmpN_lt HX.out] at HC;have HM:=hid (fun n=>nMake c1 hc1 (ha1.drewN n) (by omega));rw [lval_limbs x] at HM;clear ha1 hb1
 go_wp2_with fail
 refine HC.out.mono ?_
 rintro e w' ⟨rfl,n,rfl⟩
 go_wp2_with fail
 refine (HM.out n).mono ?_
 rintro e w' ⟨a2,c2,rfl,hc2,ha2,hb2⟩;go_wp2
 go_ret3
 have e1:x / y=0:=Nat.div_eq_of_lt HX.out;have e2:x % y=x:=Nat.mod_eq_of_lt HX.out;exact ⟨none,0,a2,c2,by rw [e1,e2,limbs_zero];rfl,by rw [e1,limbs_zero];exact Nat.le_refl _,by rw [e2];exact hc2,by rw [e1,limbs_zero];exact U32s.nil _ _,by rw [e2];exact ha2,
  (Below.drewN_refl w n).trans hb2⟩
theorem cmpN_nonneg {x y:Nat} (h:y<=x):0<=cmpN x y/\cmpN x y<=1:=by unfold cmpN;split <;> (try split) <;> omega
theorem nDivMod_one {w:World} {a b:Option Addr} {l m:List Nat} {x y:Nat} (c d:Nat) (hc:l.length<=c) (hd:m.length<=d) (h:U32s w a l) (g:U32s w b m) (hx:lval l=x) (hy:lval m=y) (hr:l.length<=17592186044416) (hxy:y<=x) (h1:(limbs y).length=1):
  Calls Tryz.prog 156 #[.slice a l.length c,.slice b m.length d] w (DivN w x y):=by
 obtain ⟨HA,HB⟩:=hd2 (nTrim_is c hc h hx) (nTrim_is d hd g hy);have hll:=h.len;have hlm:=g.len;have hle:(limbs x).length<=l.length:=by rw [<- hx];exact limbs_len_of_lval h.lim
 have hyd:y=dig (limbs y) 0:=by
  obtain ⟨lo,e1,e2⟩:=top_split y (by omega);rw [h1] at e1 e2;simp at e1 e2;omega
 have hyl:y < 4294967296:=by rw [hyd];exact dig_lt (lim_limbs y) 0
 have hy0:0 < y:=by
  refine Nat.pos_of_ne_zero fun e=>?_
  rw [e,limbs_zero] at h1;cases h1
 obtain ⟨HX,HD⟩:=hd2 hxy hyd;obtain ⟨hcv1,hcv2⟩:=cmpN_nonneg hxy;clear h g hx hy hc hd hxy hyd
 go_enter Tryz.func156,Tryz.ntmps156
 go_wp2_with fail
 refine HA.out.mono ?_
 rintro e w' ⟨⟨a1,c1,rfl,hc1,ha1⟩,rfl⟩
 go_wp2_with fail
 refine HB.out.mono ?_
 rintro e w' ⟨⟨b1,d1,rfl,hd1,hb1⟩,rfl⟩;clear HA HB;have HC:=hid (nCmp c1 d1 hc1 hd1 ha1 hb1 (lval_limbs x) (lval_limbs y));generalize cmpN x y=cv at *;have HM:=hid (fun n=>nShort c1 y hy0 hyl (ha1.drewN n) (by omega));rw [lval_limbs x] at HM;obtain ⟨bb,bo,rfl,hbb,hcell⟩:=hb1.pick (show 0 < (limbs y).length by omega);rw [<- HD.out,Nat.add_zero] at hcell;clear ha1 hb1;have H1:=hid h1;rw [h1] at HC hd1 ⊢;clear h1
 go_wp2_with fail
 refine HC.out.mono ?_
 rintro e w' ⟨rfl,n,rfl⟩
 go_wp2_with fail
 refine (HM.out n).mono ?_
 rintro e w' ⟨a2,c2,a3,c3,rfl,h2,h3,h4,h5,h6⟩;go_wp2
 go_ret3
 exact ⟨a2,c2,a3,c3,rfl,h2,h3,h4,h5,(Below.drewN_refl w n).trans h6⟩
theorem norm_shift {y:Nat} (hn:0 < (limbs y).length):Norm y (limbs y).length (32 - Lib.bitLen (dig (limbs y) ((limbs y).length - 1))) (y * 2^(32 - Lib.bitLen (dig (limbs y) ((limbs y).length - 1))))/\Lib.bitLen (dig (limbs y) ((limbs y).length - 1))<=32:=by
 have hd:=dig_lt (lim_limbs y) ((limbs y).length - 1);have h0:dig (limbs y) ((limbs y).length - 1) ≠ 0:=(limbs_canon y).resolve_left (List.length_pos_iff.1 hn);obtain ⟨h1,h2,h3⟩:=Lib.bitLenAux_bounds 64 _ (Nat.lt_trans hd (by decide)) h0;exact norm_of hn h1 h2 h3
theorem nDivMod_long {w:World} {a b:Option Addr} {l m:List Nat} {x y:Nat} (c d:Nat) (hc:l.length<=c) (hd:m.length<=d) (h:U32s w a l) (g:U32s w b m) (hx:lval l=x) (hy:lval m=y) (hr:l.length<=1099511627776) (hxy:y<=x) (h1:2<=(limbs y).length):
  Calls Tryz.prog 156 #[.slice a l.length c,.slice b m.length d] w (DivN w x y):=by
 obtain ⟨HA,HB⟩:=hd2 (nTrim_is c hc h hx) (nTrim_is d hd g hy);have hll:=h.len;have hlm:=g.len;have hle:(limbs x).length<=l.length:=by rw [<- hx];exact limbs_len_of_lval h.lim
 have hnx:(limbs y).length<=(limbs x).length:=limbs_len_mono hxy;obtain ⟨hN,hL⟩:=norm_shift (y:=y) (by omega);have HX:=hid hxy;obtain ⟨hcv1,hcv2⟩:=cmpN_nonneg hxy;have hlow:=limbs_low (y:=y) (by omega);have hz1:(((limbs y).length:Int)==0)=false:=by rw [beq_eq_false_iff_ne];omega
 have hz2:(((limbs y).length:Int)==1)=false:=by rw [beq_eq_false_iff_ne];omega
 obtain ⟨i0,hi,hz3,hz4,hz5⟩:=info_parts Tryz.infoU32;clear h g hx hy hc hd hxy
 go_enter Tryz.func156,Tryz.ntmps156
 go_wp2_with fail
 refine HA.out.mono ?_
 rintro e w' ⟨⟨a1,c1,rfl,hc1,ha1⟩,rfl⟩
 go_wp2_with fail
 refine HB.out.mono ?_
 rintro e w' ⟨⟨b1,d1,rfl,hd1,hb1⟩,rfl⟩;clear HA HB;have HC:=hid (nCmp c1 d1 hc1 hd1 ha1 hb1 (lval_limbs x) (lval_limbs y));generalize cmpN x y=cv at *;obtain ⟨bb,bo,rfl,hbb,hcell⟩:=hb1.pick (show (limbs y).length - 1 < (limbs y).length by omega);obtain ⟨HA1,HB1,HLow⟩:=hd3 ha1 hb1 hlow;clear ha1 hb1 hlow;obtain ⟨nx,hnx'⟩:∃ nx,nx=(limbs x).length:=⟨_,rfl⟩
 obtain ⟨n,hn'⟩:∃ n,n=(limbs y).length:=⟨_,rfl⟩
 obtain ⟨tp,htp⟩:∃ tp,tp=dig (limbs y) ((limbs y).length - 1):=⟨_,rfl⟩
 have htl:tp < 4294967296:=by rw [htp];exact dig_lt (lim_limbs y) _
 rw [<- htp] at hN hL hcell;obtain ⟨s,hs⟩:∃ s,s=32 - Lib.bitLen tp:=⟨_,rfl⟩
 have hsI:Hid (32 - (Lib.bitLen tp:Int)=(s:Int)):=by unfold Hid;omega
 rw [<- hs] at hN;have HN:=hid hN;have hs32:=hN.s32;have HLz:=hid (fun wv=>Tryz.bits_LeadingZeros32 (tp:Int) wv (by omega) (by omega));rw [show ((tp:Int)).toNat=tp by simp,hsI.out] at HLz;obtain ⟨HNX,HNY⟩:=hd2 hnx' hn';clear hN htp hs hsI;rw [<- hnx'] at hnx hc1 hle HC;rw [<- hn'] at HC;rw [<- hn'] at hnx h1 hz1 hz2 hd1 hcell HN HLow;rw [<- hnx', <- hn'];clear hnx' hn'
 go_wp2_with fail
 refine HC.out.mono ?_
 rintro e w' ⟨rfl,n1,rfl⟩
 go_wp2_with fail
 refine (HLz.out _).mono ?_
 rintro e w' ⟨rfl,rfl⟩;have hbw:=Below.drewN_refl w n1;obtain ⟨HA2,HB2⟩:=hd2 (HA1.out.drewN n1) (HB1.out.drewN n1);clear HC HA1 HB1 HLz hcell;generalize w.drewN n1=w1 at *;have HLa:=hid (nLeft c1 s hs32 HA2.out (by rw [<- HNX.out];omega));rw [lval_limbs, <- HNX.out] at HLa
 go_wp2_with fail
 refine HLa.out.mono ?_
 rintro e w2 ⟨rfl,hBu,hbu⟩;obtain ⟨HBu,HB3⟩:=hd2 hBu (HB2.out.below hbu);have hgu:=hBu.lt;clear HLa HA2 HB2 hBu;have hbase:=hbw.size;generalize hg1:w1.heap.size=gu at *;have HLb:=hid (nLeft d1 s hs32 HB3.out (by rw [<- HNY.out];omega));rw [lval_limbs, <- HNY.out, <- HN.out.eq] at HLb
 go_wp2_with fail
 refine HLb.out.mono ?_
 rintro e w3 ⟨rfl,hBv,hbv⟩;have hgv:=hBv.lt;have hUv:=hBv.u32s (fun i _=>limbAt_lt _ _) (by omega);have hVl:=HN.out.len (by omega);have hVv:lval ((List.range (n+1)).map (limbAt (y * 2^s)))=y * 2^s:=by
  rw [lval_map,valN_limbAt,Nat.mod_eq_of_lt];exact Nat.lt_of_lt_of_le HN.out.lt (Nat.pow_le_pow_right (by omega) (by omega))
 have hT:=nTrim_at (n+1) (by simp) hUv;have hneV:limbs (y * 2^s) ≠ []:=fun e=>by rw [e] at hVl;simp at hVl;omega
 rw [hVv,hVl] at hT;simp only [List.length_map,List.length_range] at hT;obtain ⟨HT,HNe,HVl,HBu3⟩:=hd4 hT hneV hVl (HBu.out.below hbv);clear HLb HB3 HBu hUv hVv hT hneV hVl hBv;generalize hg2:w2.heap.size=gv at *
 go_wp2_with fail
 refine HT.out.mono ?_
 rintro e w' ⟨⟨a2,c2,rfl,hc2,hV2,ha2⟩,rfl⟩;have ha3:=ha2.resolve_right HNe.out;subst ha3;have HV:=hid hV2;have hb3:Below w.heap.size w w3:=(hbw.trans (hbu.mono hbase)).trans (hbv.mono (by omega));have hs3:=hb3.size;have hgu3:gu < w3.heap.size:=by have:=hbv.size;omega
 have hvu:gv ≠ gu:=by omega
 clear HT hV2 ha2 hbw hbu hbv
 go_wp2_with (at_make;refine wpList_make_full _ rfl _ _ 49 rfl w3.heap.size 109 i0 (.int .u32 0) 1 Tryz.underlying49 hi hz3 hz4 _ _ _ _ (nx - n+1) rfl rfl (by omega) (by omega) ?b2 ?b3 (Nat.le_refl _) ?_)
 case b2=>rw [hz5];omega
 case b3=>unfold maxLen;omega
 intro w4 hown hgrow;have HB0:Hid (Blk w4 w3.heap.size (nx - n+1) (fun _=>0) 109):=by
  refine Blk.of_own (base:=w3.heap.size) ?_
  have e:(madeCells #[Value.int IntKind.u32 0] (nx - n+1)).toList=(List.range (nx - n+1)).map fun _=>Value.int .u32 ((0:Nat):Int):=by
   simp [toList_madeCells_one,List.map_const']
  rw [<- e];exact hown
 have hb4:Below w3.heap.size w3 w4:=(Below.refl _ _).grown hgrow (Nat.le_refl _) (fun k h=>by cases h);have HB1:Hid (Blk w4 gu (nx+1) (limbAt (x * 2^s)) 109):=HBu3.out.below hb4;have HV1:Hid (U32s w4 (some ⟨gv,0,none⟩) (limbs (y * 2^s))):=HV.out.below hb4;have hb5:Below w.heap.size w w4:=hb3.trans (hb4.mono hs3);have HI0:Hid (DivInv (x * 2^s) (y * 2^s) (nx - n+1) (nx - n+1) (x * 2^s) (fun _=>0)):=by
  refine DivInv.start ?_
  rw [HNX.out];exact HN.out.start (by omega) HLow.out (by rw [<- HNX.out];exact hnx)
 clear hown hgrow HBu3 HV hb3 hb4 hz3 hz4 hz5 hi HLow hz1 hz2 hcv1 hcv2;generalize hg3:w3.heap.size=go at *;generalize hVe:y * 2^s=V at *;have HVe:=hid hVe;clear hVe hg1 hg2 hg3;go_wp2
 go_loopw [13] (fun i wr=>∃ k W:Nat,∃ I:Int,∃ o:Nat->Nat,k<=nx - n+1/\I+1=(k:Int)/\i=.int .i64 I/\Hid (DivInv (x * 2^s) V (nx - n+1) k W o)/\Hid (Blk wr gu (nx+1) (limbAt W) 109)/\
  Hid (Blk wr go (nx - n+1) o 109)/\Hid (U32s wr (some ⟨gv,0,none⟩) (limbs V))/\Below w.heap.size w wr) (fun i _=>(intOf i+1).toNat)
 case atStart=>exact ⟨nx - n+1,x * 2^s,_,_,Nat.le_refl _,by omega,rfl,HI0,HB1,HB0,HV1,hb5⟩
 case round=>
  clear HB0 HB1 HV1 HI0 hb5;obtain ⟨k,W,I,o,hk,hI,rfl,HI,HBu,HBo,HV,hb⟩:=hrel
  cases k with
  | zero=>
   obtain rfl:I= -1:=by omega
   obtain ⟨hq,hw⟩:=HI.out.done;have hsc:=div_scaled x y s;rw [HVe.out] at hsc;have hWl:W < 4294967296^(nx+1):=by
    have:W < V:=by rw [hw];exact Nat.mod_lt _ HN.out.pos
    exact Nat.lt_trans this (Nat.lt_of_lt_of_le HN.out.lt (Nat.pow_le_pow_right (by omega) (by omega)))
   have hUu:=HBu.out.u32s (fun i _=>limbAt_lt W i) (by omega);have hUo:=HBo.out.u32s (fun i _=>HI.out.lim i) (by omega);have hvu2:lval ((List.range (nx+1)).map (limbAt W))=W:=by rw [lval_map,valN_limbAt,Nat.mod_eq_of_lt hWl]
   have hvo:lval ((List.range (nx - n+1)).map o)=x / y:=by rw [lval_map,hq,hsc.1]
   have hwr:W / 2^s=x % y:=by rw [hw,hsc.2]
   have HS:=nShr (nx+1) s (by omega) (by simp) hUu hvu2 (by simp;omega);rw [hwr] at HS;have HT:=fun (wv:World) (hh:U32s wv (some ⟨go,0,none⟩) ((List.range (nx - n+1)).map o))=>nTrim_is (nx - n+1) (by simp) hh hvo
   simp only [List.length_map,List.length_range] at HS HT;obtain ⟨HS',HT',HUo⟩:=hd3 HS HT hUo;clear HS HT hUu hUo hvu2 hvo hwr hq hw hsc hWl
   go_wp2_with fail
   refine HS'.out.mono ?_
   rintro e w' ⟨a5,c5,rfl,h5,h6,h7⟩;obtain ⟨H6,HT2⟩:=hd2 h6 (HT'.out w' (HUo.out.below h7));clear h6
   go_wp2_with fail
   refine HT2.out.mono ?_
   rintro e w'' ⟨⟨a6,c6,rfl,h8,h9⟩,rfl⟩;have H9:=hid h9;clear h9;go_wp2
   go_ret3
   exact ⟨a6,c6,a5,c5,rfl,h8,h5,H9.out,H6.out,hb.trans (h7.mono hb.size)⟩
  | succ k=>
   obtain rfl:I=(k:Int):=by omega
   have hne1:¬ k=nx+1:=by omega
   have hsl:k+n+1 - k=n+1:=by omega
   have hkN:k < nx - n+1:=by omega
   have hVl:(limbs V).length=n:=HVl.out;have hVv:valN (dig (limbs V)) n=V:=by have:=lval_limbs V;unfold lval at this;rwa [hVl] at this
   have hW1:W < 4294967296^(k+(n+1)):=by
    have h1:=HI.out.lt;have h2:=HN.out.lt;have h3:V * 4294967296^(k+1) < 4294967296^n * 4294967296^(k+1):=Nat.mul_lt_mul_of_pos_right h2 (bpow_pos _);rw [<- Nat.pow_add,show n+(k+1)=k+(n+1) by omega] at h3;omega
   have hUl:((List.range (n+1)).map fun j=>limbAt W (k+j)).length=n+1:=by simp
   have hUs:=HBu.out.part (limbAt_lt W) (i:=k) (m:=n+1) (by omega) (by omega);have hUv:valN (dig ((List.range (n+1)).map fun j=>limbAt W (k+j))) (n+1)=W / 4294967296^k:=by
    rw [valN_congr (g:=fun j=>limbAt W (k+j)) (fun j hj=>dig_map (f:=fun j=>limbAt W (k+j)) hj)];exact window_val hW1
   have hKn:=knuth_of h1 HN.out HI.out.lt (fun i=>dig_lt hUs.lim i) hUv;have hKr:=knuth_of h1 HN.out HI.out.lt (u:=fun j=>limbAt W (k+j)) (fun i=>limbAt_lt _ _) (window_val hW1);have HE:=hid (nEstimate (nx+1 - k) c2 n hVl hUl (by omega) hUs HV.out hKn);rw [hUv,hVv] at HE;have HR:=hid (fun (q:Nat) (wv:World) (hbl:Blk wv gu (nx+1) (limbAt W) 109) (hvv:U32s wv (some ⟨gv,0,none⟩) (limbs V)) (hq1:W / 4294967296^k / V<=q) (hq2:q<=W / 4294967296^k / V+1) (hq3:q<=4294967296)=>
    nReduce (nx+1 - k) c2 n q hbl (limbAt_lt W) hVl (by omega) (by omega) hvu hvv (u:=fun j=>limbAt W (k+j)) (fun _=>rfl) hKr (by rw [window_val hW1,hVv];exact hq1) (by rw [window_val hW1,hVv];exact hq2) hq3)
   rw [window_val hW1,hVv] at HR;have HW1:=hid hW1;clear hVl hVv hUl hUs hUv hKn hKr hW1
   go_wp2_with fail
   refine HE.out.mono ?_
   rintro e w' ⟨⟨q,rfl,hq1,hq2,hq3⟩,hbe⟩;have hRq:=HR.out q w' (HBu.out.below hbe) (HV.out.below hbe) hq1 hq2 hq3;obtain ⟨HRq,HBo2,HV2⟩:=hd3 hRq (HBo.out.below hbe) (HV.out.below hbe);have hb2:=hb.trans (hbe.mono hb.size);clear HE HR hq1 hq2 hq3 hRq HBo HV HBu hb hbe
   go_wp2_with fail
   refine HRq.out.mono ?_
   rintro e w5 ⟨rfl,hB5,hO5⟩;have hogu:go ≠ gu:=by omega
   obtain ⟨HB5,HBo5,HV5⟩:=hd3 hB5 (hO5.blk hogu HBo2.out) (hO5.u32s hvu HV2.out);have hb5:=hb2.trans (hO5.below (B:=w.heap.size) (by omega));have f1:=HBo5.out.free k;have hkc:=HBo5.out.cell hkN;have hq:=HI.out.quo HN.out.pos;generalize hQe:W / 4294967296^k / V=Q at *;have HQe:=hid hQe;clear HRq HBo2 HV2 hb2 hB5 hO5 hQe;go_wp2;go_roundw
   case rel=>
    refine ⟨k,divW V k W,(k:Int) - 1,divO V k W o,by omega,by omega,rfl,HI.out.step HN.out.pos hkN,?_,?_,?_,hb5.setCell (by show w.heap.size<=go;omega) _⟩
    ·refine (((Only.refl go w5).setCell k _).blk (by omega) HB5.out).congr (fun i hi=>?_)
     have hX:W / 4294967296^k % V < 4294967296^n:=Nat.lt_trans (Nat.mod_lt _ HN.out.pos) HN.out.lt;have e:=div_limbs (i:=k) hX i (by rw [Nat.add_assoc];exact HW1.out);unfold divW;rw [e];unfold redF
     by_cases h5:i < k
     ·rw [if_pos h5,if_neg (by omega)]
     ·rw [if_neg h5]
      by_cases h6:i < k+n
      ·rw [if_pos h6,if_pos (by omega)]
      ·rw [if_neg h6]
       by_cases h7:i < k+(n+1)
       ·rw [if_pos (by omega),limbAt_zero_of_lt (Nat.lt_of_lt_of_le hX (Nat.pow_le_pow_right (by omega) (by omega)))]
       ·rw [if_neg (by omega),limbAt_zero_of_lt (Nat.lt_of_lt_of_le HW1.out (Nat.pow_le_pow_right (by omega) (by omega)))]
    ·refine (HBo5.out.set k Q).congr (fun i hi=>?_)
     unfold divO;rw [HQe.out]
    ·exact ((Only.refl go w5).setCell k _).u32s (by omega) HV5.out
   case measure=>simp [intOf]
theorem nDivMod {w:World} {a b:Option Addr} {l m:List Nat} {x y:Nat} (c d:Nat) (hc:l.length<=c) (hd:m.length<=d) (h:U32s w a l) (g:U32s w b m) (hx:lval l=x) (hy:lval m=y) (hr:l.length<=1099511627776) (hy0:0 < y):
  Calls Tryz.prog 156 #[.slice a l.length c,.slice b m.length d] w (DivN w x y):=by
 rcases Nat.lt_or_ge x y with hlt | hge
 ·exact nDivMod_less c d hc hd h g hx hy (by omega) hlt
 ·have hp:0 < (limbs y).length:=List.length_pos_iff.2 (fun e=>by have:=limbs_nil.1 e;omega)
  by_cases h1:(limbs y).length=1
  ·exact nDivMod_one c d hc hd h g hx hy (by omega) hge h1
  ·exact nDivMod_long c d hc hd h g hx hy hr hge (by omega)
theorem nUint {w:World} {a:Option Addr} {l:List Nat} {v:Nat} (c:Nat) (hc:l.length<=c) (h:U32s w a l) (hx:lval l=v) (hv:(limbs v).length<=2):
  Calls Tryz.prog 168 #[.slice a l.length c] w fun e w'=>e=.returned (.tuple #[.int .u64 (v:Int),.bool true])/\w=w':=by
 have HA:=hid (nTrim_is c hc h hx);have hll:=h.len;clear h hx hc
 go_enter Tryz.func168,Tryz.ntmps168
 go_wp2_with fail
 refine HA.out.mono ?_
 rintro e w' ⟨⟨a1,c1,rfl,hc1,ha1⟩,rfl⟩;have HU:=hid ha1;clear HA ha1;go_wp2
 go_loop [4,14] (fun x i=>∃ k X:Nat,k<=(limbs v).length/\i=.int .i64 (k:Int)/\x=.int .u64 (X:Int)/\Hid (X=valN (dig (limbs v)) k)) (fun _ i=>(limbs v).length - (intOf i).toNat)
 case atStart=>exact ⟨0,0,Nat.zero_le _,rfl,rfl,rfl⟩
 case round=>
  obtain ⟨k,X,hk,rfl,rfl,HX⟩:=hrel
  by_cases hlt:k < (limbs v).length
  ·obtain ⟨p1,o1,rfl,hp1,q1⟩:=HU.out.pick hlt;have hd:=dig_lt (lim_limbs v) k;have hk2:k=0 ∨ k=1:=by omega
   rcases hk2 with rfl | rfl
   ·have h0:X=0:=HX.out;subst h0;have E:bits .or .u64 0 (dig (limbs v) 0:Int)=((dig (limbs v) 0:Nat):Int):=by
     have:=bits_or_u64_nat 0 (dig (limbs v) 0) (by omega) (by omega)
     simpa using this
    rw [Nat.add_zero] at q1;go_wp2;exact ⟨⟨1,_,hlt,rfl,rfl,by unfold Hid;simp [valN]⟩,by simp [intOf];omega⟩
   ·have hX:X=dig (limbs v) 0:=by rw [HX.out];simp [valN]
    have hXl:X < 4294967296:=by rw [hX];exact dig_lt (lim_limbs v) 0
    have HX0:=hid hX;have E:bits .or .u64 (X:Int) ((dig (limbs v) 1:Int) * 4294967296)=((X+dig (limbs v) 1 * 4294967296:Nat):Int):=by
     rw [show ((dig (limbs v) 1:Int) * 4294967296)=((dig (limbs v) 1 * 4294967296:Nat):Int) by omega,bits_or_u64_nat _ _ (by omega) (by omega)]
     congr 1
     exact or_add' (k:=32) (by omega) (by omega)
    clear hX;go_wp2;exact ⟨⟨2,X+dig (limbs v) 1 * 4294967296,hlt,rfl,rfl,by unfold Hid;rw [HX0.out];simp [valN]⟩,by simp [intOf];omega⟩
  ·have hXv:X=v:=by
    have e:k=(limbs v).length:=by omega
    rw [HX.out,e];exact lval_limbs v
   have HXv:=hid hXv;clear hXv;go_wp2
   go_ret2
   exact ⟨by rw [HXv.out];rfl,rfl⟩
theorem nBits_zero {w:World} {a:Option Addr} {l:List Nat} (c:Nat) (hc:l.length<=c) (h:U32s w a l) (hx:lval l=0):
  Calls Tryz.prog 166 #[.slice a l.length c] w fun e w'=>e=.returned (.int .i64 0)/\w=w':=by
 have HA:=hid (nTrim_is c hc h hx);rw [limbs_zero] at HA;have hll:=h.len;clear h hx hc
 go_enter Tryz.func166,Tryz.ntmps166
 go_wp2_with fail
 refine HA.out.mono ?_
 rintro e w' ⟨⟨a1,c1,rfl,hc1,ha1⟩,rfl⟩;clear HA;go_wp2;go_ret;exact ⟨rfl,rfl⟩
theorem nBits_pos {w:World} {a:Option Addr} {l:List Nat} {v:Nat} (c:Nat) (hc:l.length<=c) (h:U32s w a l) (hx:lval l=v) (hv:v ≠ 0) (hr:l.length<=17592186044416):
  Calls Tryz.prog 166 #[.slice a l.length c] w fun e w'=>(∃ n:Nat,e=.returned (.int .i64 (n:Int))/\0 < n/\n<=9223372036854775807)/\w=w':=by
 have HA:=hid (nTrim_is c hc h hx);have hll:=h.len;have hle:(limbs v).length<=l.length:=by rw [<- hx];exact limbs_len_of_lval h.lim
 have hp:0 < (limbs v).length:=List.length_pos_iff.2 (fun e=>by have:=limbs_nil.1 e;omega);have hz1:(((limbs v).length:Int)==0)=false:=by rw [beq_eq_false_iff_ne];omega
 obtain ⟨_,hL⟩:=norm_shift (y:=v) hp;obtain ⟨hl1,_,_⟩:=Lib.bitLenAux_bounds 64 _ (Nat.lt_trans (dig_lt (lim_limbs v) ((limbs v).length - 1)) (by decide)) ((limbs_canon v).resolve_left (List.length_pos_iff.1 hp));have hl1':1<=Lib.bitLen (dig (limbs v) ((limbs v).length - 1)):=hl1;have hdl:=dig_lt (lim_limbs v) ((limbs v).length - 1);have HL:=hid (fun wv=>Tryz.bits_Len32 ((dig (limbs v) ((limbs v).length - 1):Nat):Int) wv (by omega) (by omega));rw [show (((dig (limbs v) ((limbs v).length - 1):Nat):Int)).toNat=dig (limbs v) ((limbs v).length - 1) by simp] at HL;clear h hx hc hl1;generalize hbl:Lib.bitLen (dig (limbs v) ((limbs v).length - 1))=bl at *;clear hbl
 go_enter Tryz.func166,Tryz.ntmps166
 go_wp2_with fail
 refine HA.out.mono ?_
 rintro e w' ⟨⟨a1,c1,rfl,hc1,ha1⟩,rfl⟩;obtain ⟨bb,bo,rfl,hbb,hcell⟩:=ha1.pick (show (limbs v).length - 1 < (limbs v).length by omega);clear HA ha1
 go_wp2_with fail
 refine (HL.out _).mono ?_
 rintro e w' ⟨rfl,rfl⟩;go_wp2;go_ret;exact ⟨⟨32 * ((limbs v).length - 1)+bl,ret_int (by omega),by omega,by omega⟩,rfl⟩
theorem limbs_two {v:Nat} (h:(limbs v).length<=2):v < 18446744073709551616:=
 Nat.lt_of_lt_of_le (limbs_len_lt v) (Nat.le_trans (Nat.pow_le_pow_right (by omega) h) (by decide))
theorem mod_len (A:Nat) {B:Nat} (hB:0 < B):(limbs (A % B)).length<=(limbs B).length:=limbs_len_mono (Nat.le_of_lt (Nat.mod_lt _ hB))
theorem limbs_pos_iff {B:Nat}:0 < (limbs B).length ↔ 0 < B:=by
 rw [List.length_pos_iff]
 constructor
 ·intro h;exact Nat.pos_of_ne_zero fun e=>h (by rw [e,limbs_zero])
 ·intro h e;have:=limbs_nil.1 e;omega
theorem nGcd {w:World} {a b:Option Addr} {l m:List Nat} {x y:Nat} (c d:Nat) (hc:l.length<=c) (hd:m.length<=d) (h:U32s w a l) (g:U32s w b m) (hx:lval l=x) (hy:lval m=y) (hr:l.length<=1099511627776) (hr2:m.length<=1099511627776):
  Calls Tryz.prog 155 #[.slice a l.length c,.slice b m.length d] w (RetN w (Nat.gcd x y)):=by
 obtain ⟨HA,HB⟩:=hd2 (nTrim_is c hc h hx) (nTrim_is d hd g hy);have hll:=h.len;have hlm:=g.len;have hle:(limbs x).length<=l.length:=by rw [<- hx];exact limbs_len_of_lval h.lim
 have hle2:(limbs y).length<=m.length:=by rw [<- hy];exact limbs_len_of_lval g.lim
 clear h g hx hy hc hd
 go_enter Tryz.func155,Tryz.ntmps155
 go_wp2_with fail
 refine HA.out.mono ?_
 rintro e w' ⟨⟨a1,c1,rfl,hc1,ha1⟩,rfl⟩
 go_wp2_with fail
 refine HB.out.mono ?_
 rintro e w' ⟨⟨b1,d1,rfl,hd1,hb1⟩,rfl⟩;obtain ⟨HA1,HB1⟩:=hd2 ha1 hb1;clear HA HB ha1 hb1;go_wp2
 go_loopg [0,1] y (fun k p q wr=>∃ (A B:Nat) (a1 b1:Option Addr) (c1 d1:Nat),k=B/\p=.slice a1 (limbs A).length c1/\q=.slice b1 (limbs B).length d1/\(limbs A).length<=c1/\(limbs B).length<=d1/\(limbs A).length<=1099511627776/\(limbs B).length<=1099511627776/\Hid (U32s wr a1 (limbs A))/\Hid (U32s wr b1 (limbs B))/\Hid (Nat.gcd A B=Nat.gcd x y)/\Below w.heap.size w wr)
 case atStart=>exact ⟨x,y,a1,b1,c1,d1,rfl,rfl,rfl,hc1,hd1,by omega,by omega,HA1,HB1,rfl,Below.refl _ _⟩
 case round=>
  clear HA1 HB1 hc1 hd1 hle hle2 hll hlm hr hr2;obtain ⟨A,B,a1,b1,c1,d1,hgk,rfl,rfl,hc1,hd1,hrA,hrB,HA1,HB1,HG,hb⟩:=hrel;have HGk:=hid hgk;clear hgk
  by_cases h2:2 < (limbs B).length
  ·have hB0:0 < B:=limbs_pos_iff.1 (by omega);have HD:=hid (nDivMod c1 d1 hc1 hd1 HA1.out HB1.out (lval_limbs A) (lval_limbs B) hrA hB0)
   go_wp2_with fail
   refine HD.out.mono ?_
   rintro e w' ⟨a2,c2,a3,c3,rfl,h3,h4,h5,h6,h7⟩;obtain ⟨H6,HB2⟩:=hd2 h6 (HB1.out.below h7);have hb2:=hb.trans (h7.mono hb.size);clear HD h5 h6 h7 HA1 HB1 hb;go_wp2
   go_roundg (A % B)
   case measure=>rw [HGk.out];exact Nat.mod_lt _ hB0
   case rel=>
    refine ⟨B,A % B,b1,a3,d1,c3,rfl,rfl,rfl,hd1,h4,hrB,Nat.le_trans (mod_len A hB0) hrB,HB2,H6,?_,hb2⟩
    unfold Hid;rw [<- HG.out,Nat.gcd_comm A B,Nat.gcd_rec B A,Nat.gcd_comm]
  ·by_cases h0:B=0
   ·subst h0;have HM:=hid (nMake c1 hc1 HA1.out (by omega));rw [lval_limbs] at HM;have HG0:Hid (A=Nat.gcd x y):=by have:=HG.out;rw [Nat.gcd_zero_right] at this;exact this
    rw [limbs_zero] at *
    go_wp2_with fail
    refine HM.out.mono ?_
    rintro e w' ⟨a2,c2,rfl,h3,h4,h5⟩;go_wp2;go_ret
    refine ⟨a2,c2,?_,?_,?_,hb.trans (h5.mono hb.size)⟩
    ·rw [<- HG0.out];rfl
    ·rw [<- HG0.out];exact h3
    ·rw [<- HG0.out];exact h4
   ·have hB0:0 < B:=Nat.pos_of_ne_zero h0;have hz1:(((limbs B).length:Int)==0)=false:=by have:=limbs_pos_iff.2 hB0;rw [beq_eq_false_iff_ne];omega
    have HD:=hid (nDivMod c1 d1 hc1 hd1 HA1.out HB1.out (lval_limbs A) (lval_limbs B) hrA hB0);have hml:=mod_len A hB0;have HB0:=hid hB0;clear h0
    go_wp2_with fail
    refine HD.out.mono ?_
    rintro e w' ⟨a2,c2,a3,c3,rfl,h3,h4,h5,h6,h7⟩;obtain ⟨HU1,HU2⟩:=hd2 (nUint d1 hd1 (HB1.out.below h7) (lval_limbs B) (by omega)) (nUint c3 h4 h6 (lval_limbs (A % B)) (by omega));have hb2:=hb.trans (h7.mono hb.size);have hl1:=limbs_two (v:=B) (by omega);have hl2:=limbs_two (v:=A % B) (by omega);have HG2:Hid (Nat.gcd B (A % B)=Nat.gcd x y):=by
     unfold Hid;rw [<- HG.out,Nat.gcd_comm A B,Nat.gcd_rec B A,Nat.gcd_comm]
    obtain ⟨HL1,HL2⟩:=hd2 hl1 hl2;clear HD h5 h6 h7 HA1 HB1 hb hl1 hl2 hml
    go_wp2_with fail
    refine HU1.out.mono ?_
    rintro e w' ⟨rfl,rfl⟩
    go_wp2_with fail
    refine HU2.out.mono ?_
    rintro e w' ⟨rfl,rfl⟩;generalize hR:A % B=R at *;have HR:=hid hR;clear hR HU1 HU2;go_wp2
    go_loopw [11,13] (fun p q wr=>∃ X Y:Nat,p=.int .u64 (X:Int)/\q=.int .u64 (Y:Int)/\Hid (X < 18446744073709551616)/\Hid (Y < 18446744073709551616)/\Hid (Nat.gcd X Y=Nat.gcd x y)/\Below w.heap.size w wr) (fun _ q _=>(intOf q).toNat)
    case atStart=>exact ⟨B,R,rfl,rfl,HL1,HL2,HG2,hb2⟩
    case round=>
     clear hb2 HL1 HL2 HG2;obtain ⟨X,Y,rfl,rfl,HX,HY,HGr,hb⟩:=hrel
     by_cases hY:Y=0
     ·subst hY;have HO:=hid (nOf X HX.out wr);have HXg:Hid (X=Nat.gcd x y):=by have:=HGr.out;rw [Nat.gcd_zero_right] at this;exact this
      go_wp2_with fail
      refine HO.out.mono ?_
      rintro e w' ⟨a2,c2,rfl,h3,h4,h5⟩;go_wp2;go_ret
      refine ⟨a2,c2,?_,?_,?_,hb.trans (h5.mono hb.size)⟩
      ·rw [<- HXg.out];rfl
      ·rw [<- HXg.out];exact h3
      ·rw [<- HXg.out];exact h4
     ·have hY0:0 < Y:=Nat.pos_of_ne_zero hY;have hYz:((Y:Int)==0)=false:=by rw [beq_eq_false_iff_ne];omega
      have hYd:decide ((0:Int) < (Y:Int))=true:=by rw [decide_eq_true_eq];omega
      have D2:=tmod_nat' X Y;have HmY:=hid (Nat.mod_lt X hY0);go_wp2
      go_quiet (fail)
      go_wp2;have e:((X:Int) % (Y:Int))=((X % Y:Nat):Int):=by simp
      rw [e]
      refine ⟨⟨Y,X % Y,rfl,rfl,HY.out,Nat.lt_trans HmY.out HY.out,?_,hb.trans (Below.drewN_refl wr nq |>.mono hb.size)⟩,?_⟩
      ·unfold Hid;rw [<- HGr.out,Nat.gcd_comm X Y,Nat.gcd_rec Y X,Nat.gcd_comm]
      ·simp only [intOf,Int.toNat_natCast];exact HmY.out
theorem mul_carry2 {C x y o:Nat} (hC:C < 4294967296) (hx:x < 4294967296) (hy:y < 4294967296) (ho:o < 4294967296):IntKind.u64.wrap ((C:Int)+IntKind.u64.wrap (IntKind.u64.wrap ((x:Int) * (y:Int))+(o:Int)))=((C+x * y+o:Nat):Int):=by
 have h1:=mul_bd hx hy;rw [show ((x:Int) * (y:Int))=((x * y:Nat):Int) by simp,IntKind.wrap_u64,IntKind.wrap_u64,IntKind.wrap_u64];generalize x * y=A at h1 ⊢;omega
theorem mulRow_lt {f:Nat->Nat} {x:Nat} {y:Nat->Nat} (hf:∀ j,f j < 4294967296) (hx:x < 4294967296) (hy:∀ j,y j < 4294967296) (i m j:Nat):mulRow f x y i m j < 4294967296:=by
 unfold mulRow
 split
 ·exact hf _
 ·split
  ·exact mulD_lt _ _ _ _
  ·split
   ·exact mulC_lt hx hy (fun k=>hf _) _
   ·exact hf _
theorem redF_mulRow (f:Nat->Nat) (x:Nat) (y:Nat->Nat) (i m z:Nat):(if z=i+m then mulC x y (fun k=>f (i+k)) m else redF f i (mulD x y (fun k=>f (i+k))) m z)=mulRow f x y i m z:=by
 unfold mulRow redF
 by_cases h1:z=i+m
 ·rw [if_pos h1,if_neg (by omega),if_neg (by omega),if_pos h1]
 ·rw [if_neg h1]
  by_cases h2:z < i
  ·rw [if_pos h2,if_neg (by omega)]
  ·rw [if_neg h2]
   by_cases h3:z < i+m
   ·rw [if_pos h3,if_pos (by omega)]
   ·rw [if_neg h3,if_neg (by omega),if_neg h1]
structure MulInv (x Y:Nat) (q i:Nat) (f:Nat->Nat):Prop where
 val:valN f (i+q)=valN (dig (limbs x)) i * Y
 zero:∀ j,i+q<=j->f j=0
 lim:∀ j,f j < 4294967296
theorem MulInv.start (x Y q:Nat):MulInv x Y q 0 (fun _=>0):=⟨by rw [valN_zero (fun _ _=>rfl)];simp [valN],fun _ _=>rfl,fun _=>by omega⟩
theorem MulInv.step {x y q i:Nat} {f:Nat->Nat} (h:MulInv x y q i f) (hq:q=(limbs y).length):MulInv x y q (i+1) (mulRow f (dig (limbs x) i) (dig (limbs y)) i q):=by
 have hd:∀ z j,dig (limbs z) j < 4294967296:=fun z j=>dig_lt (lim_limbs z) j
 refine ⟨?_,fun j hj=>?_,fun j=>mulRow_lt h.lim (hd _ _) (fun j=>hd _ j) i q j⟩
 ·rw [show i+1+q=i+q+1 by omega,mulRow_val,h.val,hq,show valN (dig (limbs y)) (limbs y).length=y from lval_limbs y];simp only [valN];rw [Nat.add_mul,Nat.mul_right_comm]
 ·unfold mulRow;rw [if_neg (by omega),if_neg (by omega),if_neg (by omega)];exact h.zero j (by omega)
theorem MulInv.done {x y q:Nat} {f:Nat->Nat} (h:MulInv x y q (limbs x).length f):valN f ((limbs x).length+q)=x * y:=by
 rw [h.val,show valN (dig (limbs x)) (limbs x).length=x from lval_limbs x]
theorem nMul_zero {w:World} {a b:Option Addr} {l m:List Nat} {x y:Nat} (c d:Nat) (hc:l.length<=c) (hd:m.length<=d) (h:U32s w a l) (g:U32s w b m) (hx:lval l=x) (hy:lval m=y) (hxy:x=0 ∨ y=0):
  Calls Tryz.prog 161 #[.slice a l.length c,.slice b m.length d] w fun e w'=>e=.returned (.slice none 0 0)/\w=w':=by
 obtain ⟨HA,HB⟩:=hd2 (nTrim_is c hc h hx) (nTrim_is d hd g hy);have hll:=h.len;have hlm:=g.len;have hl1:=(limbs_len_of_lval h.lim)
 rw [hx] at hl1;clear h g hx hy hc hd
 by_cases hx0:x=0
 ·subst hx0;rw [limbs_zero] at HA;clear hxy hl1
  go_enter Tryz.func161,Tryz.ntmps161
  go_wp2_with fail
  refine HA.out.mono ?_
  rintro e w' ⟨⟨a1,c1,rfl,hc1,ha1⟩,rfl⟩
  go_wp2_with fail
  refine HB.out.mono ?_
  rintro e w' ⟨⟨b1,d1,rfl,hd1,hb1⟩,rfl⟩;clear HA HB;go_wp2;go_ret;exact ⟨rfl,rfl⟩
 ·have hy0:y=0:=hxy.resolve_left hx0;subst hy0;have hp:=limbs_pos_iff.2 (Nat.pos_of_ne_zero hx0);have hz:(((limbs x).length:Int)==0)=false:=by rw [beq_eq_false_iff_ne];omega
  rw [limbs_zero] at HB;clear hxy hx0
  go_enter Tryz.func161,Tryz.ntmps161
  go_wp2_with fail
  refine HA.out.mono ?_
  rintro e w' ⟨⟨a1,c1,rfl,hc1,ha1⟩,rfl⟩
  go_wp2_with fail
  refine HB.out.mono ?_
  rintro e w' ⟨⟨b1,d1,rfl,hd1,hb1⟩,rfl⟩;clear HA HB;go_wp2;go_ret;exact ⟨rfl,rfl⟩
theorem nMul_pos {w:World} {a b:Option Addr} {l m:List Nat} {x y:Nat} (c d:Nat) (hc:l.length<=c) (hd:m.length<=d) (h:U32s w a l) (g:U32s w b m) (hx:lval l=x) (hy:lval m=y) (hx0:0 < x) (hy0:0 < y) (hr:l.length+m.length<=17592186044416):
  Calls Tryz.prog 161 #[.slice a l.length c,.slice b m.length d] w (RetN w (x * y)):=by
 obtain ⟨HA,HB⟩:=hd2 (nTrim_is c hc h hx) (nTrim_is d hd g hy);have hll:=h.len;have hlm:=g.len;have hle:(limbs x).length<=l.length:=by rw [<- hx];exact limbs_len_of_lval h.lim
 have hle2:(limbs y).length<=m.length:=by rw [<- hy];exact limbs_len_of_lval g.lim
 have hpx:=limbs_pos_iff.2 hx0;have hpy:=limbs_pos_iff.2 hy0;have hz1:(((limbs x).length:Int)==0)=false:=by rw [beq_eq_false_iff_ne];omega
 have hz2:(((limbs y).length:Int)==0)=false:=by rw [beq_eq_false_iff_ne];omega
 obtain ⟨i0,hi,hz3,hz4,hz5⟩:=info_parts Tryz.infoU32;clear h g hx hy hc hd hx0 hy0
 go_enter Tryz.func161,Tryz.ntmps161
 go_wp2_with fail
 refine HA.out.mono ?_
 rintro e w' ⟨⟨a1,c1,rfl,hc1,ha1⟩,rfl⟩
 go_wp2_with fail
 refine HB.out.mono ?_
 rintro e w' ⟨⟨b1,d1,rfl,hd1,hb1⟩,rfl⟩;obtain ⟨HX,HY⟩:=hd2 ha1 hb1;have hrr:(limbs x).length+(limbs y).length<=17592186044416:=by omega
 clear HA HB ha1 hb1 hle hle2 hr hll hlm;obtain ⟨p,hp⟩:∃ p,p=(limbs x).length:=⟨_,rfl⟩
 obtain ⟨q,hq⟩:∃ q,q=(limbs y).length:=⟨_,rfl⟩
 obtain ⟨HP,HQ⟩:=hd2 hp hq;rw [<- hp] at hc1 hpx hz1 hrr ⊢;rw [<- hq] at hd1 hpy hz2 hrr ⊢;clear hp hq
 go_wp2_with (at_make;refine wpList_make_full _ rfl _ _ 49 rfl w.heap.size 109 i0 (.int .u32 0) 1 Tryz.underlying49 hi hz3 hz4 _ _ _ _ (p+q) rfl rfl (by omega) (by omega) ?b2 ?b3 (Nat.le_refl _) ?_)
 case b2=>rw [hz5];omega
 case b3=>unfold maxLen;omega
 intro w1 hown hgrow;have HB0:Hid (Blk w1 w.heap.size (p+q) (fun _=>0) 109):=by
  refine Blk.of_own (base:=w.heap.size) ?_
  have e:(madeCells #[Value.int IntKind.u32 0] (p+q)).toList=(List.range (p+q)).map fun _=>Value.int .u32 ((0:Nat):Int):=by
   simp [toList_madeCells_one,List.map_const']
  rw [<- e];exact hown
 have hb1:Below w.heap.size w w1:=(Below.refl _ _).grown hgrow (Nat.le_refl _) (fun k h=>by cases h);clear hown hgrow hz1 hz2 hz3 hz4 hz5 hi;go_wp2
 go_loopw [31] (fun i wr=>∃ j:Nat,∃ f:Nat->Nat,j<=p/\i=.int .i64 (j:Int)/\Hid (MulInv x y q j f)/\Hid (Blk wr w.heap.size (p+q) f 109)/\Below w.heap.size w wr) (fun i _=>p - (intOf i).toNat)
 case atStart=>exact ⟨0,fun _=>0,Nat.zero_le _,rfl,MulInv.start _ _ _,HB0,hb1⟩
 case round=>
  clear HB0 hb1;obtain ⟨j,f,hj,rfl,HI,HBl,hb⟩:=hrel
  by_cases hlt:j < p
  ·obtain ⟨p1,o1,rfl,hp1,q1⟩:=(HX.out.below hb).pick (k:=j) (by rw [<- HP.out];exact hlt);have hdx:=dig_lt (lim_limbs x) j;have HYr:=hid (HY.out.below hb);obtain ⟨wo,hwo⟩:∃ wo:World,wo=wr:=⟨_,rfl⟩
   subst hwo;go_wp2
   go_loopw [8,38] (fun cv i wr=>∃ k C:Nat,k<=q/\i=.int .i64 (k:Int)/\cv=.int .u64 (C:Int)/\Hid (C=mulC (dig (limbs x) j) (dig (limbs y)) (fun k=>f (j+k)) k)/\
    Hid (Blk wr w.heap.size (p+q) (redF f j (mulD (dig (limbs x) j) (dig (limbs y)) (fun k=>f (j+k))) k) 109)/\Below w.heap.size w wr) (fun _ i _=>q - (intOf i).toNat)
   case atStart=>exact ⟨0,0,Nat.zero_le _,rfl,rfl,rfl,by unfold Hid;rw [redF_zero];exact HBl.out,hb⟩
   case round=>
    clear HBl hb HYr q1;obtain ⟨k,C,hk,rfl,rfl,HC,HBl,hb⟩:=hrel;have hC:C < 4294967296:=by rw [HC.out];exact mulC_lt hdx (fun i=>dig_lt (lim_limbs y) i) (fun i=>HI.out.lim _) k
    by_cases hlt2:k < q
    ·obtain ⟨p2,o2,rfl,hp2,q2⟩:=(HY.out.below hb).pick (k:=k) (by rw [<- HQ.out];exact hlt2);have c2:=HBl.out.cell (x:=j+k) (by omega);rw [redF_at] at c2;have f2:=HBl.out.free (j+k);have hdy:=dig_lt (lim_limbs y) k;have hfo:=HI.out.lim (j+k);obtain ⟨HE,hB⟩:=hd2 (mul_carry2 hC hdx hdy hfo) hb;clear hb;go_wp2;go_roundw
     case rel=>
      rw [HE.out];have e1:(((C+dig (limbs x) j * dig (limbs y) k+f (j+k):Nat):Int) % 4294967296)=((mulD (dig (limbs x) j) (dig (limbs y)) (fun k=>f (j+k)) k:Nat):Int):=by
       unfold mulD;rw [<- HC.out];generalize C+dig (limbs x) j * dig (limbs y) k+f (j+k)=A;omega
      have e2:(((C+dig (limbs x) j * dig (limbs y) k+f (j+k):Nat):Int) / 4294967296)=((mulC (dig (limbs x) j) (dig (limbs y)) (fun k=>f (j+k)) (k+1):Nat):Int):=by
       simp only [mulC];rw [<- HC.out];generalize C+dig (limbs x) j * dig (limbs y) k+f (j+k)=A;omega
      refine ⟨k+1,_,hlt2,by go_num,by rw [e2],rfl,?_,hB.out.setCell (Nat.le_refl _) _⟩
      rw [e1];unfold Hid;rw [redF_step];exact HBl.out.set (j+k) _
     case measure=>simp [intOf];omega
    ·obtain rfl:k=q:=by omega
     have c2:=HBl.out.cell (x:=j+k) (by omega);rw [redF_at] at c2;have f2:=HBl.out.free (j+k);have hB:=hid hb;clear hb;go_wp2;go_roundw
     case rel=>
      refine ⟨j+1,mulRow f (dig (limbs x) j) (dig (limbs y)) j k,hlt,by go_num,HI.out.step HQ.out,?_,hB.out.setCell (Nat.le_refl _) _⟩
      rw [HC.out]
      refine (HBl.out.set (j+k) _).congr (fun z hz=>?_)
      exact redF_mulRow f _ _ j k z
     case measure=>simp [intOf];omega
  ·obtain rfl:j=p:=by omega
   have hU:=HBl.out.u32s (fun i _=>HI.out.lim i) (by omega);have hv:lval ((List.range (j+q)).map f)=x * y:=by
    have hd:=HI.out;rw [lval_map,HP.out];rw [HP.out] at hd;exact hd.done
   have HT:=nTrim_is (j+q) (by simp) hU hv;simp only [List.length_map,List.length_range] at HT;have HT':=hid HT;clear HT hU hv
   go_wp2_with fail
   refine HT'.out.mono ?_
   rintro e w' ⟨⟨a6,c6,rfl,h8,h9⟩,rfl⟩;go_wp2;go_ret;exact ⟨a6,c6,rfl,h8,h9,hb⟩
theorem nMul {w:World} {a b:Option Addr} {l m:List Nat} {x y:Nat} (c d:Nat) (hc:l.length<=c) (hd:m.length<=d) (h:U32s w a l) (g:U32s w b m) (hx:lval l=x) (hy:lval m=y) (hr:l.length+m.length<=17592186044416):
  Calls Tryz.prog 161 #[.slice a l.length c,.slice b m.length d] w (RetN w (x * y)):=by
 by_cases hxy:x=0 ∨ y=0
 ·refine (nMul_zero c d hc hd h g hx hy hxy).mono ?_
  rintro e w' ⟨rfl,rfl⟩;have h0:x * y=0:=by rcases hxy with rfl | rfl <;> simp
  exact ⟨none,0,by rw [h0,limbs_zero];rfl,by rw [h0,limbs_zero];exact Nat.le_refl _,by rw [h0,limbs_zero];exact U32s.nil _ _,Below.refl _ _⟩
 ·exact nMul_pos c d hc hd h g hx hy (by omega) (by omega) hr
def NoInt (w:World) (g:Nat):Prop:=∀ (o:Nat) (x:Int),w.cell? ⟨g,o,none⟩ ≠ some (.int .u32 x)
theorem NoInt.below {w w':World} {g:Nat} (h:NoInt w g) (hb:Below w.heap.size w w') (hg:g < w.heap.size):NoInt w' g:=fun o x e=>h o x ((hb.cell (p:=⟨g,o,none⟩) hg).symm.trans e)
theorem cell_setCell_none {w:World} {g o:Nat} {v:Value} (h:w.cell? ⟨g,o,none⟩=none):(w.setCell ⟨g,o,none⟩ v).cell? ⟨g,o,none⟩=none:=by
 unfold World.cell? at *;simp only [World.setCell,Array.getElem?_modify,if_pos]
 cases hg:w.heap[g]? with
 | none=>simp
 | some ob=>
  rw [hg] at h
  cases ob with
  | cells c e f=>simp at h ⊢;omega
  | _=>simp
theorem NoInt.setCell {w:World} {g:Nat} (h:NoInt w g) (o:Nat) (v:Value) (hv:∀ x,v ≠ .int .u32 x):NoInt (w.setCell ⟨g,o,none⟩ v) g:=by
 intro o' x e
 by_cases ho:o'=o
 ·subst ho
  cases hc:w.cell? ⟨g,o',none⟩ with
  | none=>
   rw [cell_setCell_none hc] at e;cases e
  | some y=>
   rw [World.cell?_setCell_same _ _ _ hc] at e;cases e;exact hv _ rfl
 ·rw [World.cell?_setCell_other _ _ _ _ (by intro h;cases h;exact ho rfl)] at e;exact h _ _ e
theorem NoInt.alloc (w:World) (cs:Array Value) (T:Nat) (h:cs.all (fun v=>match v with | .int .u32 _=>false | _=>true)=true):NoInt (w.alloc (.cells cs T)) w.heap.size:=by
 intro o x e;rw [World.cell?_alloc_at _ _ _ _ rfl] at e;rw [Array.all_eq_true'] at h;have:=h _ (Array.mem_of_getElem? e);cases this
theorem U32s.setCell {w:World} {g:Nat} {a:Option Addr} {l:List Nat} (h:U32s w a l) (hn:NoInt w g) (o:Nat) (v:Value):U32s (w.setCell ⟨g,o,none⟩ v) a l:=by
 by_cases hl:l=[]
 ·rw [hl];exact U32s.nil _ _
 obtain ⟨b,off,rfl,hb,hc⟩:=h.open hl;have hp:=List.length_pos_iff.2 hl;have hne:b ≠ g:=by
  rintro rfl;exact hn _ _ (hc 0 hp)
 exact ((Only.refl g w).setCell o v).u32s hne h
structure RatV (w:World) (v:Value) (x:RatL):Prop where
 ex:∃ (an ad:Option Addr) (cn cd:Nat),v=.agg #[.bool x.neg,.slice an x.num.length cn,.slice ad x.den.length cd]/\x.num.length<=cn/\x.den.length<=cd/\U32s w an x.num/\U32s w ad x.den
theorem RatV.below {w w':World} {v:Value} {x:RatL} (h:RatV w v x) (hb:Below w.heap.size w w'):RatV w' v x:=by
 obtain ⟨an,ad,cn,cd,h1,h2,h3,h4,h5⟩:=h.ex;exact ⟨an,ad,cn,cd,h1,h2,h3,h4.below hb,h5.below hb⟩
theorem RatV.lim {w:World} {v:Value} {x:RatL} (h:RatV w v x):x.Lim:=by
 obtain ⟨an,ad,cn,cd,h1,h2,h3,h4,h5⟩:=h.ex;exact ⟨h4.lim,h5.lim⟩
def RetR (w:World) (x:RatL) (e:Ending) (w':World):Prop:=∃ v,e=.returned v/\RatV w' v x/\Below w.heap.size w w'
theorem rUnit {w:World} {a:Option Addr} {v:Nat} (c:Nat) (h:U32s w a (limbs v)):
  Calls Tryz.prog 154 #[.slice a (limbs v).length c] w fun e w'=>e=.returned (.bool (decide (v=1)))/\w=w':=by
 have hlen:=h.len
 by_cases h1:(limbs v).length=1
 ·obtain ⟨b,off,rfl,hb,hcell⟩:=h.pick (show 0 < (limbs v).length by omega);have hv:v=dig (limbs v) 0:=by
   obtain ⟨lo,e1,e2⟩:=top_split v (by omega);rw [h1] at e1 e2;simp at e1 e2;omega
  rw [<- hv,Nat.add_zero] at hcell;rw [h1];have hE:((v:Int)==1)=decide (v=1):=by rw [Bool.eq_iff_iff,beq_iff_eq,decide_eq_true_eq];omega
  have HE:=hid hE;clear h h1 hv hlen hE
  go_enter Tryz.func154,Tryz.ntmps154
  go_wp2;go_ret;exact ⟨ret_bool HE.out,rfl⟩
 ·have hne:(((limbs v).length:Int)==1)=false:=by rw [beq_eq_false_iff_ne];omega
  have hv:decide (v=1)=false:=by
   rw [decide_eq_false_iff_not];intro e;apply h1;rw [e,limbs_pos (by omega)];simp [limbs_zero]
  have HV:=hid hv;clear h h1 hv
  go_enter Tryz.func154,Tryz.ntmps154
  go_wp2;go_ret;exact ⟨ret_bool HV.out.symm,rfl⟩
theorem rOne (w:World):Calls Tryz.prog 129 #[] w fun e w'=>(∃ a,e=.returned (.slice a 1 1)/\U32s w' a [1])/\Below w.heap.size w w':=by
 go_enter Tryz.func129,Tryz.ntmps129
 go_wp2;go_ret
 refine ⟨⟨_,rfl,⟨by intro d hd;simp at hd;omega,by simp,.inr ⟨w.heap.size,0,rfl,by simp,fun j d hj=>?_⟩⟩⟩,(Below.refl _ _).alloc (Nat.le_refl _) _⟩
 rw [World.cell?_alloc_at _ _ _ _ rfl]
 match j,hj with
 | 0,hj=>simp at hj;subst hj;simp
def RetU (w:World) (v:Nat) (n:Nat) (e:Ending) (w':World):Prop:=∃ a c l,e=.returned (.slice a l.length c)/\l.length<=c/\U32s w' a l/\lval l=v/\l.length<=n/\Below w.heap.size w w'
theorem rUnder {w:World} {v:Value} {x:RatL} (h:RatV w v x) (hr:x.den.length<=17592186044416):Calls Tryz.prog 150 #[v] w (RetU w (underN x.den) (x.den.length+1)):=by
 obtain ⟨an,ad,cn,cd,rfl,h2,h3,h4,h5⟩:=h.ex;have hd:=fun wv (hu:U32s wv ad x.den)=>h5.len
 by_cases h0:lval x.den=0
 ·obtain ⟨HB,H5,H0⟩:=hd3 (fun wv (hu:U32s wv ad x.den)=>nBits_zero cd h3 hu h0) h5 h0;clear h4 h5 h0 hd h
  go_enter Tryz.func150,Tryz.ntmps150
  go_wp2_with fail
  refine (HB.out _ (H5.out.below ((Below.refl _ _).alloc (Nat.le_refl _) _))).mono ?_
  rintro e w' ⟨rfl,rfl⟩
  go_wp2_with fail
  refine (rOne _).mono ?_
  rintro e w' ⟨⟨a1,rfl,hU⟩,hb⟩;go_wp2;go_ret;exact ⟨a1,1,[1],rfl,by simp,hU,by unfold underN;rw [if_pos H0.out];rfl,by simp,((Below.refl _ _).alloc (Nat.le_refl _) _).trans (hb.mono (by simp))⟩
 ·obtain ⟨HB,H5,H0⟩:=hd3 (fun wv (hu:U32s wv ad x.den)=>nBits_pos cd h3 hu rfl h0 hr) h5 h0;clear h4 h5 h0 hd h
  go_enter Tryz.func150,Tryz.ntmps150
  go_wp2_with fail
  refine (HB.out _ (H5.out.below ((Below.refl _ _).alloc (Nat.le_refl _) _))).mono ?_
  rintro e w' ⟨⟨n,rfl,hn1,hn2⟩,rfl⟩;have hz:((n:Int)==0)=false:=by rw [beq_eq_false_iff_ne];omega
  go_wp2;go_ret;exact ⟨ad,cd,x.den,rfl,h3,H5.out.below ((Below.refl _ _).alloc (Nat.le_refl _) _),by unfold underN;rw [if_neg H0.out],by omega,(Below.refl _ _).alloc (Nat.le_refl _) _⟩
theorem bcell {W w1:World} (hb:Below W.heap.size W w1):(∀ b o,b < W.heap.size->w1.cell? ⟨b,o,none⟩=W.cell? ⟨b,o,none⟩)/\(∀ b o,b < W.heap.size->w1.frozen? ⟨b,o,none⟩=W.frozen? ⟨b,o,none⟩):=
 ⟨fun b o h=>hb.cell (p:=⟨b,o,none⟩) h,fun b o h=>hb.frozen (p:=⟨b,o,none⟩) h⟩
theorem rQuot_zero {w:World} {a b:Option Addr} {l m:List Nat} (neg:Bool) (c e:Nat) (hc:l.length<=c) (h:U32s w a l) (hx:lval l=0) (hr:l.length<=1099511627776) {d:Nat} (hd:0 < d):
  Calls Tryz.prog 128 #[.bool neg,.slice a l.length c,.slice b m.length e] w (RetR w (quotN neg 0 d)):=by
 have HM:=hid (fun wv (hu:U32s wv a l)=>nMake c hc hu (by omega));rw [hx] at HM;obtain ⟨H,hq⟩:=hd2 h (quotN_zero neg hd);have hl:=h.len;clear h hx
 go_enter Tryz.func128,Tryz.ntmps128
 go_wp2_with fail
 refine (HM.out _ (H.out.below ((Below.refl _ _).alloc (Nat.le_refl _) _))).mono ?_
 rintro e1 w1 ⟨a1,c1,rfl,h1,h2,hb⟩;have hb':=hid hb;obtain ⟨hcell,hfree⟩:=bcell hb;have hz:w.heap.size+1<=w1.heap.size:=by have:=hb.size;simpa using this
 rw [limbs_zero] at *;clear h2 hb;go_wp2;rw [hq.out]
 refine bodyPost_ret (v:=.agg #[.bool false,.slice none 0 0,.slice none 0 0]) (by simp [results,Tryz.results128,go_sem,hz,hcell]) rfl ⟨_,rfl,⟨none,none,0,0,rfl,Nat.le_refl _,Nat.le_refl _,U32s.nil _ _,U32s.nil _ _⟩,?_⟩
 exact (((((Below.refl w.heap.size w).alloc (Nat.le_refl _) _).trans (hb'.out.mono (by simp))).setCell (Nat.le_refl _) _).setCell (Nat.le_refl _) _).setCell (Nat.le_refl _) _
theorem quotN_gcd1 (neg:Bool) {n d:Nat} (hn:n ≠ 0) (hd:d ≠ 1) (hg:Nat.gcd n d=1):quotN neg n d=⟨neg,limbs n,limbs d⟩:=by
 simp [quotN,hg,hn,hd]
theorem quotN_den1 (neg:Bool) {n d:Nat} (hn:n ≠ 0) (hg:d / Nat.gcd n d=1):quotN neg n d=⟨neg,limbs (n / Nat.gcd n d),[]⟩:=by
 simp [quotN,hg,hn]
theorem quotN_den (neg:Bool) {n d:Nat} (hn:n ≠ 0) (hg:d / Nat.gcd n d ≠ 1):quotN neg n d=⟨neg,limbs (n / Nat.gcd n d),limbs (d / Nat.gcd n d)⟩:=by
 simp [quotN,hg,hn]
theorem rQuot_pos {w:World} {a b:Option Addr} {l m:List Nat} (neg:Bool) (c e:Nat) (hc:l.length<=c) (he:m.length<=e) (h:U32s w a l) (g:U32s w b m) {n d:Nat} (hx:lval l=n) (hy:lval m=d) (hr:l.length<=1099511627776) (hr2:m.length<=1099511627776) (hn:n ≠ 0) (hd:0 < d):
  Calls Tryz.prog 128 #[.bool neg,.slice a l.length c,.slice b m.length e] w (RetR w (quotN neg n d)):=by
 have HM:=hid (fun wv (hu:U32s wv a l)=>nMake c hc hu (by omega));rw [hx] at HM;have HM2:=hid (fun wv (hu:U32s wv b m)=>nMake e he hu (by omega));rw [hy] at HM2;obtain ⟨H,G⟩:=hd2 h g;have hl:=h.len;have hl2:=g.len;have hp:=limbs_pos_iff.2 (Nat.pos_of_ne_zero hn);have hz1:(((limbs n).length:Int)==0)=false:=by rw [beq_eq_false_iff_ne];omega
 have hnl:(limbs n).length<=1099511627776:=by have:=limbs_len_of_lval h.lim;rw [hx] at this;omega
 have hdl:(limbs d).length<=1099511627776:=by have:=limbs_len_of_lval g.lim;rw [hy] at this;omega
 obtain ⟨HN,HD⟩:=hd2 hn hd;clear h g hx hy hn hd
 go_enter Tryz.func128,Tryz.ntmps128
 have hB0:=blA w (zerO 51)
 go_wp2_with fail
 refine (HM.out _ (H.out.below hB0)).mono ?_
 rintro e1 w1 ⟨a1,c1,rfl,h1,h2,hb1⟩;obtain ⟨H2,HG2⟩:=hd2 h2 (HM2.out w1 ((G.out.below hB0).below hb1));clear H G h2 HM HM2
 go_wp2_with fail
 refine HG2.out.mono ?_
 rintro e2 w2 ⟨b1,d1,rfl,h3,h4,hb2⟩;obtain ⟨H4,H2'⟩:=hd2 h4 (H2.out.below hb2);have hb:=hb1.trans (hb2.mono hb1.size);have HU:=hid (rUnit d1 h4);clear HG2 h4 H2 hb1 hb2 hB0;have HNq:=hid (quotN_one neg HN.out);have hN2:NoInt w2 w.heap.size:=(NoInt.alloc w _ 51 (by simp)).below hb (by simp)
 by_cases hd1:d=1
 ·subst hd1;obtain ⟨hcell,hfree⟩:=bcell hb;have hz:w.heap.size+1<=w2.heap.size:=by have:=hb.size;simpa using this
  have HB:=hid hb;clear hb
  go_wp2_with fail
  refine HU.out.mono ?_
  rintro e3 w3 ⟨rfl,rfl⟩;go_wp2;rw [HNq.out];have hbe:Below w.heap.size w w2:=((Below.refl _ _).alloc (Nat.le_refl _) _).trans (HB.out.mono (by simp));have hbf:=(((hbe.setCell (p:=⟨w.heap.size,0,none⟩) (Nat.le_refl _) (.bool neg)).setCell (p:=⟨w.heap.size,1,none⟩) (Nat.le_refl _) (.slice a1 (limbs n).length c1)).setCell (p:=⟨w.heap.size,2,none⟩) (Nat.le_refl _) (.slice none 0 0))
  refine bodyPost_ret (v:=.agg #[.bool neg,.slice a1 (limbs n).length c1,.slice none 0 0]) (by simp [results,Tryz.results128,go_sem,hz,hcell]) rfl ⟨_,rfl,⟨a1,none,c1,0,rfl,h1,Nat.le_refl _,?_,U32s.nil _ _⟩,hbf⟩
  exact ((H2'.out.setCell hN2 _ _).setCell (hN2.setCell _ _ (by simp)) _ _).setCell ((hN2.setCell _ _ (by simp)).setCell _ _ (by simp)) _ _
 ·obtain ⟨HG,HD1⟩:=hd2 (nGcd c1 d1 h1 h3 H2'.out H4.out (lval_limbs n) (lval_limbs d) hnl hdl) hd1;rw [decide_eq_false hd1] at HU;clear hd1
  go_wp2_with fail
  refine HU.out.mono ?_
  rintro e3 w3 ⟨rfl,rfl⟩
  go_wp2_with fail
  refine HG.out.mono ?_
  rintro e3 w3 ⟨a3,c3,rfl,h5,h6,hb3⟩;have hgp:0 < Nat.gcd n d:=Nat.gcd_pos_of_pos_right n HD.out;have hbb:=hb.trans (hb3.mono hb.size);obtain ⟨HNum,HDen,HU3,H6,HN3⟩:=hd5 (H2'.out.below hb3) (H4.out.below hb3) (rUnit c3 h6) h6 ((hN2).below hb3 (by have:=hb.size;simp at this;omega));clear HG HU h6 hb3 hb H2' H4 HNq hN2
  by_cases hg1:Nat.gcd n d=1
  ·rw [hg1] at HU3;have hq:=hid (quotN_gcd1 neg HN.out HD1.out hg1);rw [hg1] at h5 ⊢;have HUd:=hid (rUnit d1 HDen.out);rw [decide_eq_false HD1.out] at HUd;clear hg1
   go_wp2_with fail
   refine HU3.out.mono ?_
   rintro e3 w4 ⟨rfl,rfl⟩
   go_wp2_with fail
   refine HUd.out.mono ?_
   rintro e3 w4 ⟨rfl,rfl⟩;obtain ⟨hcell,hfree⟩:=bcell hbb;have hz:w.heap.size+1<=w3.heap.size:=by have:=hbb.size;simpa using this
   have HB:=hid hbb;clear hbb;go_wp2;rw [hq.out];have hbe:Below w.heap.size w w3:=((Below.refl _ _).alloc (Nat.le_refl _) _).trans (HB.out.mono (by simp));have hbf:=(((hbe.setCell (p:=⟨w.heap.size,0,none⟩) (Nat.le_refl _) (.bool neg)).setCell (p:=⟨w.heap.size,1,none⟩) (Nat.le_refl _) (.slice a1 (limbs n).length c1)).setCell (p:=⟨w.heap.size,2,none⟩) (Nat.le_refl _) (.slice b1 (limbs d).length d1))
   refine bodyPost_ret (v:=.agg #[.bool neg,.slice a1 (limbs n).length c1,.slice b1 (limbs d).length d1]) (by simp [results,Tryz.results128,go_sem,hz,hcell]) rfl ⟨_,rfl,⟨a1,b1,c1,d1,rfl,h1,h3,?_,?_⟩,hbf⟩
   ·exact ((HNum.out.setCell HN3.out _ _).setCell (HN3.out.setCell _ _ (by simp)) _ _).setCell ((HN3.out.setCell _ _ (by simp)).setCell _ _ (by simp)) _ _
   ·exact ((HDen.out.setCell HN3.out _ _).setCell (HN3.out.setCell _ _ (by simp)) _ _).setCell ((HN3.out.setCell _ _ (by simp)).setCell _ _ (by simp)) _ _
  ·rw [decide_eq_false hg1] at HU3;have HDv1:=hid (nDivMod c1 c3 h1 h5 HNum.out H6.out (lval_limbs n) (lval_limbs _) hnl hgp);clear hg1
   go_wp2_with fail
   refine HU3.out.mono ?_
   rintro e3 w4 ⟨rfl,rfl⟩
   go_wp2_with fail
   refine HDv1.out.mono ?_
   rintro e3 w4 ⟨a4,c4,a4',c4',rfl,h7,h7',h8,h8',hb4⟩;obtain ⟨HDv2,H8⟩:=hd2 (nDivMod d1 c3 h3 h5 (HDen.out.below hb4) (H6.out.below hb4) (lval_limbs d) (lval_limbs _) hdl hgp) h8;have hbc:=hbb.trans (hb4.mono hbb.size);have HN4:=hid (HN3.out.below hb4 (by have:=hbb.size;simp at this;omega));clear HU3 HDv1 h8 h8' hb4 hbb HN3 HNum HDen H6
   go_wp2_with fail
   refine HDv2.out.mono ?_
   rintro e3 w5 ⟨a5,c5,a5',c5',rfl,h9,h9',h10,h10',hb5⟩;obtain ⟨H8',HUd,H10⟩:=hd3 (H8.out.below hb5) (rUnit c5 h10) h10;have hbd:=hbc.trans (hb5.mono hbc.size);have HN5:=hid (HN4.out.below hb5 (by have:=hbc.size;simp at this;omega));obtain ⟨hcell,hfree⟩:=bcell hbd;have hz:w.heap.size+1<=w5.heap.size:=by have:=hbd.size;simpa using this
   have HB:=hid hbd;clear HDv2 h10 h10' hb5 hbc HN4 hbd H8
   by_cases hq1:d / Nat.gcd n d=1
   ·rw [decide_eq_true hq1] at HUd;have hq:=hid (quotN_den1 neg HN.out hq1);clear hq1
    go_wp2_with fail
    refine HUd.out.mono ?_
    rintro e3 w6 ⟨rfl,rfl⟩;go_wp2;rw [hq.out];have hbe:Below w.heap.size w w5:=((Below.refl _ _).alloc (Nat.le_refl _) _).trans (HB.out.mono (by simp));have hbf:=(((hbe.setCell (p:=⟨w.heap.size,0,none⟩) (Nat.le_refl _) (.bool neg)).setCell (p:=⟨w.heap.size,1,none⟩) (Nat.le_refl _) (.slice a4 (limbs (n / Nat.gcd n d)).length c4)).setCell (p:=⟨w.heap.size,2,none⟩) (Nat.le_refl _) (.slice none 0 0))
    refine bodyPost_ret (v:=.agg #[.bool neg,.slice a4 (limbs (n / Nat.gcd n d)).length c4,.slice none 0 0]) (by simp [results,Tryz.results128,go_sem,hz,hcell]) rfl ⟨_,rfl,⟨a4,none,c4,0,rfl,h7,Nat.le_refl _,?_,U32s.nil _ _⟩,hbf⟩
    exact ((H8'.out.setCell HN5.out _ _).setCell (HN5.out.setCell _ _ (by simp)) _ _).setCell ((HN5.out.setCell _ _ (by simp)).setCell _ _ (by simp)) _ _
   ·rw [decide_eq_false hq1] at HUd;have hq:=hid (quotN_den neg HN.out hq1);clear hq1
    go_wp2_with fail
    refine HUd.out.mono ?_
    rintro e3 w6 ⟨rfl,rfl⟩;go_wp2;rw [hq.out];have hbe:Below w.heap.size w w5:=((Below.refl _ _).alloc (Nat.le_refl _) _).trans (HB.out.mono (by simp));have hbf:=(((hbe.setCell (p:=⟨w.heap.size,0,none⟩) (Nat.le_refl _) (.bool neg)).setCell (p:=⟨w.heap.size,1,none⟩) (Nat.le_refl _) (.slice a4 (limbs (n / Nat.gcd n d)).length c4)).setCell (p:=⟨w.heap.size,2,none⟩) (Nat.le_refl _) (.slice a5 (limbs (d / Nat.gcd n d)).length c5))
    refine bodyPost_ret (v:=.agg #[.bool neg,.slice a4 (limbs (n / Nat.gcd n d)).length c4,.slice a5 (limbs (d / Nat.gcd n d)).length c5]) (by simp [results,Tryz.results128,go_sem,hz,hcell]) rfl ⟨_,rfl,⟨a4,a5,c4,c5,rfl,h7,h9,?_,?_⟩,hbf⟩
    ·exact ((H8'.out.setCell HN5.out _ _).setCell (HN5.out.setCell _ _ (by simp)) _ _).setCell ((HN5.out.setCell _ _ (by simp)).setCell _ _ (by simp)) _ _
    ·exact ((H10.out.setCell HN5.out _ _).setCell (HN5.out.setCell _ _ (by simp)) _ _).setCell ((HN5.out.setCell _ _ (by simp)).setCell _ _ (by simp)) _ _
theorem rQuot {w:World} {a b:Option Addr} {l m:List Nat} (neg:Bool) (c e:Nat) (hc:l.length<=c) (he:m.length<=e) (h:U32s w a l) (g:U32s w b m) {n d:Nat} (hx:lval l=n) (hy:lval m=d) (hr:l.length<=1099511627776) (hr2:m.length<=1099511627776) (hd:0 < d):
  Calls Tryz.prog 128 #[.bool neg,.slice a l.length c,.slice b m.length e] w (RetR w (quotN neg n d)):=by
 by_cases hn:n=0
 ·subst hn;exact rQuot_zero neg c e hc h hx hr hd
 ·exact rQuot_pos neg c e hc he h g hx hy hr hr2 hn hd
end Go.Proofs.YtfgmmghmmfmdgaaGreat
