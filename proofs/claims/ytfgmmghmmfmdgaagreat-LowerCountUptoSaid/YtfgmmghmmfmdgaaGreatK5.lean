/-
  Contracts of the functions that the statement reaches: NatD, NatE, NatF, NatG, NatH.
-/
import Derived.Test.YtfgmmghmmfmdgaaGreatK4
import Derived.Laws.Bits64b
set_option linter.all false
set_option maxRecDepth 100000
set_option maxHeartbeats 3200000
namespace Go.Proofs.YtfgmmghmmfmdgaaGreat
open Go.RowKit
open Go.Lib (hid)
theorem Blk.of_own {w:World} {base E g n:Nat} {f:Nat->Nat} (h:w.ownsRow base E 1 (.slice (some ⟨g,0,none⟩) n n) n ((List.range n).map fun x=>Value.int .u32 (f x:Int))):Blk w g n f E:=by
 rcases h.2 with ⟨h0,_⟩ | ⟨g',cap,cur,he,hb,hg,hnc,hcm,hcs,htake⟩
 ·cases h0
 ·cases he;have hc:cur=rowA n f:=by
   unfold rowA;rw [<- htake,List.take_of_length_le (by simp;omega)]
  unfold Blk;rw [hg,hc]
theorem bits_or_u32_nat (a b:Nat) (ha:a < 4294967296) (hb:b < 4294967296):bits .or .u32 (a:Int) (b:Int)=((a ||| b:Nat):Int):=by
 have hx:a ||| b < 2^32:=Nat.or_lt_two_pow (by omega) (by omega)
 have h1:(BitVec.ofInt 32 (a:Int)).toNat=a:=by
  rw [BitVec.ofInt_natCast,BitVec.toNat_ofNat];exact Nat.mod_eq_of_lt (by omega)
 have h2:(BitVec.ofInt 32 (b:Int)).toNat=b:=by
  rw [BitVec.ofInt_natCast,BitVec.toNat_ofNat];exact Nat.mod_eq_of_lt (by omega)
 show IntKind.u32.wrap ((BitVec.ofInt 32 (a:Int) ||| BitVec.ofInt 32 (b:Int)).toNat:Int)=_
 rw [BitVec.toNat_or,h1,h2,IntKind.wrap_u32];omega
theorem shl_wrap {d k:Nat} (hd:d < 4294967296) (hk:k < 32):IntKind.u64.wrap ((d:Int) * 2^k)=((d * 2^k:Nat):Int):=by
 have e:((d:Int) * 2^k)=((d * 2^k:Nat):Int):=by simp
 have h1:2^k<=2^31:=Nat.pow_le_pow_right (by omega) (by omega);have h2:d * 2^k<=4294967295 * 2147483648:=Nat.mul_le_mul (by omega) h1;rw [e,IntKind.wrap_u64];omega
theorem left_low {f:Nat->Nat} {k j:Nat} (hf:∀ i,f i < 4294967296) (hk:k < 32):bits .or .u32 (shlC f k j:Int) (IntKind.u64.wrap ((f j:Int) * 2^k) % 4294967296)=((shlD f k j:Nat):Int):=by
 have h1:=shlC_lt (k:=k) hf j;have h2:2^k<=2^31:=Nat.pow_le_pow_right (by omega) (by omega);rw [shl_wrap (hf j) hk,show ((f j * 2^k:Nat):Int) % 4294967296=((f j * 2^k % 4294967296:Nat):Int) by omega,bits_or_u32_nat _ _ (by omega) (by omega)]
 congr 1
 unfold shlD;rw [or_add' h1 (by rw [shlLow hk];exact Nat.mul_mod_left _ _),Nat.add_comm]
theorem left_high {f:Nat->Nat} {k j:Nat} (hf:∀ i,f i < 4294967296) (hk:k < 32):IntKind.u64.wrap ((f j:Int) * 2^k) / 4294967296 % 4294967296=((shlC f k (j+1):Nat):Int):=by
 have h1:=shlC_lt (k:=k) hf (j+1);have h2:2^k<=2^31:=Nat.pow_le_pow_right (by omega) (by omega);rw [shl_wrap (hf j) hk];simp only [shlC] at *;omega
def leftF (f:Nat->Nat) (k i:Nat):Nat->Nat:=fun j=>if j < i then shlD f k j else if j=i then shlC f k i else 0
theorem leftF_zero (f:Nat->Nat) (k:Nat):leftF f k 0=fun _=>0:=by
 funext j;unfold leftF;rw [if_neg (by omega)];split <;> rfl
theorem leftF_step (f:Nat->Nat) (k i:Nat):leftF f k (i+1)=fun j=>if j=i+1 then shlC f k (i+1) else if j=i then shlD f k i else leftF f k i j:=by
 funext j;unfold leftF
 by_cases h1:j=i+1
 ·subst h1;rw [if_neg (by omega),if_pos rfl,if_pos rfl]
 ·rw [if_neg h1,if_neg h1]
  by_cases h2:j=i
  ·subst h2;rw [if_pos (by omega),if_pos rfl]
  ·rw [if_neg h2]
   by_cases h3:j < i
   ·rw [if_pos (by omega),if_pos h3]
   ·rw [if_neg (by omega),if_neg h3,if_neg h2]
theorem leftF_end {l:List Nat} {k:Nat} (hl:Lim l) (hk:k < 32):∀ j,j < l.length+1->leftF (dig l) k l.length j=limbAt (lval l * 2^k) j:=by
 have hv:valN (leftF (dig l) k l.length) (l.length+1)=lval l * 2^k:=by
  simp only [valN];rw [valN_congr (n:=l.length) (f:=leftF (dig l) k l.length) (g:=shlD (dig l) k) (fun j hj=>by unfold leftF;rw [if_pos hj])];have:leftF (dig l) k l.length l.length=shlC (dig l) k l.length:=by unfold leftF;rw [if_neg (by omega),if_pos rfl]
  rw [this];exact shlV (dig l) k l.length
 intro j hj;rw [<- hv,limbAt_valN ?_ hj];intro i;unfold leftF
 split
 ·exact shlD_lt (fun j=>dig_lt hl j) hk i
 ·split
  ·have:=shlC_lt (f:=dig l) (k:=k) (fun j=>dig_lt hl j) l.length;have h2:2^k<=2^32:=Nat.pow_le_pow_right (by omega) (by omega);omega
  ·omega
theorem nLeft {w:World} {a:Option Addr} {l:List Nat} (c k:Nat) (hk:k < 32) (h:U32s w a l) (hr:l.length<=17592186044416):
  Calls Tryz.prog 171 #[.slice a l.length c,.int .i64 (k:Int)] w fun e w'=>e=.returned (.slice (some ⟨w.heap.size,0,none⟩) (l.length+1) (l.length+1))/\Blk w' w.heap.size (l.length+1) (limbAt (lval l * 2^k)) 109/\Below w.heap.size w w':=by
 obtain ⟨i0,hi,hz0,hz1,hz2⟩:=info_parts Tryz.infoU32;obtain ⟨HU,HL⟩:=hd2 h h.lim;clear h
 go_enter Tryz.func171,Tryz.ntmps171
 go_wp2_with (at_make;refine wpList_make_full _ rfl _ _ 49 rfl w.heap.size 109 i0 (.int .u32 0) 1 Tryz.underlying49 hi hz0 hz1 _ _ _ _ (l.length+1) rfl rfl (by omega) (by omega) ?b2 ?b3 (Nat.le_refl _) ?_)
 case b2=>rw [hz2];omega
 case b3=>unfold maxLen;omega
 intro w0 hown0 hgrow0;have HB0:Hid (Blk w0 w.heap.size (l.length+1) (leftF (dig l) k 0) 109):=by
  refine Blk.of_own (base:=w.heap.size) ?_
  have e:(madeCells #[Value.int IntKind.u32 0] (l.length+1)).toList=(List.range (l.length+1)).map fun x=>Value.int .u32 (leftF (dig l) k 0 x:Int):=by
   rw [leftF_zero];simp [toList_madeCells_one,List.map_const']
  rw [<- e];exact hown0
 have hb0:Below w.heap.size w w0:=(Below.refl _ _).grown hgrow0 (Nat.le_refl _) (fun k h=>by cases h);clear hown0 hgrow0 hz0 hz1 hz2 hi;go_wp2
 go_loopw [15] (fun i wr=>∃ j:Nat,j<=l.length/\i=.int .i64 j/\Hid (Blk wr w.heap.size (l.length+1) (leftF (dig l) k j) 109)/\Below w.heap.size w wr) (fun i _=>l.length - (intOf i).toNat)
 case atStart=>exact ⟨0,Nat.zero_le _,rfl,HB0,hb0⟩
 case round=>
  clear HB0 hb0;obtain ⟨j,hj,rfl,HB,hb⟩:=hrel
  by_cases hlt:j < l.length
  ·obtain ⟨p1,o1,rfl,hp1,q1⟩:=(HU.out.below hb).pick hlt;have d0:=HB.out.cell (x:=j) (by omega);have d1:=HB.out.cell (x:=j+1) (by omega);rw [show leftF (dig l) k j j=shlC (dig l) k j by unfold leftF;rw [if_neg (by omega),if_pos rfl]] at d0;have f0:=HB.out.free j;have f1:=HB.out.free (j+1);have hdl:=dig_lt HL.out j;have hdg:∀ i,dig l i < 4294967296:=fun i=>dig_lt HL.out i
   obtain ⟨E0,E1⟩:=hd2 (left_low (j:=j) hdg hk) (left_high (j:=j) hdg hk);clear hdg;go_wp2;go_roundw
   case rel=>
    refine ⟨j+1,hlt,by go_num,?_,(hb.setCell (Nat.le_refl _) _).setCell (Nat.le_refl _) _⟩
    rw [E0.out,E1.out];unfold Hid;rw [leftF_step];exact (HB.out.set j (shlD (dig l) k j)).set (j+1) (shlC (dig l) k (j+1))
   case measure=>simp [intOf];omega
  ·obtain rfl:j=l.length:=by omega
   go_wp2;go_ret;exact ⟨rfl,HB.out.congr (leftF_end HL.out hk),hb⟩
def shortF (l:List Nat) (d k:Nat):Nat->Nat:=fun j=>if k<=j then (high l (j+1) % d * 4294967296+dig l j) / d else 0
theorem shortF_step (l:List Nat) (d k:Nat):shortF l d k=fun j=>if j=k then (high l (k+1) % d * 4294967296+dig l k) / d else shortF l d (k+1) j:=by
 funext j;unfold shortF
 by_cases h:j=k
 ·subst h;rw [if_pos (Nat.le_refl _),if_pos rfl]
 ·rw [if_neg h]
  by_cases h2:k<=j
  ·rw [if_pos h2,if_pos (by omega)]
  ·rw [if_neg h2,if_neg (by omega)]
theorem short_or {R d:Nat} (hR:R < 4294967296) (hd:d < 4294967296):bits .or .u64 ((R:Int) * 4294967296) (d:Int)=((R * 4294967296+d:Nat):Int):=by
 rw [show ((R:Int) * 4294967296)=((R * 4294967296:Nat):Int) by omega,bits_or_u64_nat _ _ (by omega) (by omega)]
 congr 1
 exact or_add (k:=32) (by omega) (by omega)
theorem tmod_nat' (a b:Nat):(a:Int).tmod (b:Int)=((a % b:Nat):Int):=by rw [Int.tmod_eq_emod_of_nonneg (by omega)];simp
theorem tdiv_nat' (a b:Nat):(a:Int).tdiv (b:Int)=((a / b:Nat):Int):=by rw [Int.tdiv_eq_ediv_of_nonneg (by omega)];simp
theorem nShort {w:World} {a:Option Addr} {l:List Nat} (c d:Nat) (hd0:0 < d) (hd:d < 4294967296) (h:U32s w a l) (hr:l.length<=17592186044416):
  Calls Tryz.prog 169 #[.slice a l.length c,.int .u32 (d:Int)] w fun e w'=>∃ a1 c1 a2 c2,e=.returned (.tuple #[.slice a1 (limbs (lval l / d)).length c1,.slice a2 (limbs (lval l % d)).length c2])/\
   (limbs (lval l / d)).length<=c1/\(limbs (lval l % d)).length<=c2/\U32s w' a1 (limbs (lval l / d))/\U32s w' a2 (limbs (lval l % d))/\Below w.heap.size w w':=by
 obtain ⟨i0,hi,hz0,hz1,hz2⟩:=info_parts Tryz.infoU32;obtain ⟨HU,HL⟩:=hd2 h h.lim;clear h
 go_enter Tryz.func169,Tryz.ntmps169
 go_wp2_with (at_make;refine wpList_make_full _ rfl _ _ 49 rfl w.heap.size 109 i0 (.int .u32 0) 1 Tryz.underlying49 hi hz0 hz1 _ _ _ _ l.length rfl rfl (by omega) (by omega) ?b2 ?b3 (Nat.le_refl _) ?_)
 case b2=>rw [hz2];omega
 case b3=>unfold maxLen;omega
 intro w0 hown0 hgrow0;have HB0:Hid (Blk w0 w.heap.size l.length (shortF l d l.length) 109):=by
  refine Blk.congr (f:=fun _=>0) (Blk.of_own (base:=w.heap.size) ?_) (fun i hi=>by unfold shortF;rw [if_neg (by omega)])
  have e:(madeCells #[Value.int IntKind.u32 0] l.length).toList=(List.range l.length).map fun _=>Value.int .u32 ((0:Nat):Int):=by
   simp [toList_madeCells_one,List.map_const']
  rw [<- e];exact hown0
 have hb0:Below w.heap.size w w0:=(Below.refl _ _).grown hgrow0 (Nat.le_refl _) (fun k h=>by cases h);clear hown0 hgrow0 hz0 hz1 hz2 hi;go_wp2
 go_loopw [7,8] (fun r i wr=>∃ k R:Nat,∃ I:Int,k<=l.length/\I+1=(k:Int)/\i=.int .i64 I/\r=.int .u64 (R:Int)/\R < d/\Hid (R=high l k % d)/\Hid (Blk wr w.heap.size l.length (shortF l d k) 109)/\Below w.heap.size w wr) (fun _ i _=>(intOf i+1).toNat)
 case atStart=>exact ⟨l.length,0,_,Nat.le_refl _,by omega,rfl,rfl,hd0,by unfold Hid;rw [high_end (Nat.le_refl _),Nat.zero_mod],HB0,hb0⟩
 case round=>
  clear HB0 hb0;obtain ⟨k,R,I,hk,hI,rfl,rfl,hR,HR,HB,hb⟩:=hrel
  cases k with
  | zero=>
   obtain rfl:I= -1:=by omega
   have hll:((List.range l.length).map (shortF l d 0)).length=l.length:=by simp
   have hU:=HB.out.u32s (fun i _=>by unfold shortF;rw [if_pos (Nat.zero_le _)];exact short_lt HL.out hd0) (by omega);have hv:lval ((List.range l.length).map (shortF l d 0))=lval l / d:=by
    rw [lval_map, <- short_all hd0 (l:=l)];exact valN_congr (fun i _=>by unfold shortF;rw [if_pos (Nat.zero_le _)])
   have hT:=nTrim_is l.length (by omega) hU hv;rw [hll] at hT;have HT:=hid hT;have HR2:Hid (R=lval l % d):=by have:=HR.out;rwa [high_zero] at this
   clear hll hU hv hT
   go_wp2_with fail
   refine HT.out.mono ?_
   rintro e w' ⟨⟨a1,c1,rfl,h1,h2⟩,rfl⟩;obtain ⟨HH,HO⟩:=hd2 h2 (nOf R (by omega) wr);clear h2
   go_wp2_with fail
   refine HO.out.mono ?_
   rintro e w' ⟨a2,c2,rfl,h3,h4,h5⟩;have hz:R=lval l % d:=HR2.out;have HZ:=hid hz;clear hz;go_wp2
   go_ret2
   rw [HZ.out] at h3 h4;exact ⟨a1,c1,a2,c2,by rw [HZ.out];rfl,h1,h3,HH.out.below h5,h4,hb.trans (h5.mono hb.size)⟩
  | succ m=>
   obtain rfl:I=(m:Int):=by omega
   obtain ⟨p1,o1,rfl,hp1,q1⟩:=(HU.out.below hb).pick (show m < l.length by omega);have hm:m < l.length:=by omega
   have hdm:=dig_lt HL.out m;have d0:=HB.out.cell (x:=m) hm;have f0:=HB.out.free m;have E:=short_or (R:=R) (d:=dig l m) (by omega) hdm;have hs:=short_step hd0 hm;rw [<- HR.out] at hs;have hq:=short_lt (i:=m) HL.out hd0;rw [<- HR.out] at hq;have T1:=hid (show (bits .or .u64 ((R:Int) * 4294967296) (dig l m:Int)).tmod (d:Int)=(((R * 4294967296+dig l m) % d:Nat):Int) by rw [E,tmod_nat']);have T2:=hid (show IntKind.u64.wrap ((bits .or .u64 ((R:Int) * 4294967296) (dig l m:Int)).tdiv (d:Int)) % 4294967296=(((R * 4294967296+dig l m) / d:Nat):Int) by
    rw [E,tdiv_nat',IntKind.wrap_u64];generalize (R * 4294967296+dig l m) / d=Q at hq ⊢;omega)
   have HS:=hid hs;clear E hs hq;go_wp2;go_roundw
   case rel=>
    refine ⟨m,(R * 4294967296+dig l m) % d,_,by omega,by omega,rfl,by rw [T1.out],Nat.mod_lt _ hd0,HS.out.2.symm,?_,hb.setCell (Nat.le_refl _) _⟩
    rw [T2.out];unfold Hid;rw [shortF_step, <- HR.out];exact HB.out.set m _
   case measure=>simp [intOf]
theorem lval_drop {l:List Nat} (hl:Lim l) (i:Nat):lval (l.drop i)=lval l / 4294967296^i:=by
 rcases Nat.lt_or_ge i l.length with h | h
 ·obtain ⟨m,hm⟩:∃ m,l.length=i+m:=⟨l.length - i,by omega⟩
  have e:lval l=valN (dig l) i+valN (fun j=>dig l (i+j)) m * 4294967296^i:=by
   unfold lval;rw [hm,valN_split]
  rw [e,Nat.add_mul_div_right _ _ (bpow_pos i),Nat.div_eq_of_lt (valN_lt (fun j _=>dig_lt hl j)),Nat.zero_add];unfold lval;rw [List.length_drop,hm,Nat.add_sub_cancel_left];exact valN_congr (fun j _=>by unfold dig;simp [List.getD_eq_getElem?_getD])
 ·rw [List.drop_of_length_le h,lval_nil,Nat.div_eq_of_lt (Nat.lt_of_lt_of_le (lval_lt hl) (Nat.pow_le_pow_right (by omega) h))]
theorem shr_split (v k:Nat):v / 2^k=v / 4294967296^(k / 32) / 2^(k % 32):=by
 rw [Nat.div_div_eq_div_mul,show (4294967296:Nat)=2^32 by decide, <- Nat.pow_mul, <- Nat.pow_add,Nat.div_add_mod]
def shrF (f:Nat->Nat) (j:Nat):Nat->Nat:=fun i=>if i < j then f i else 0
theorem shrF_step (f:Nat->Nat) (j:Nat):shrF f (j+1)=fun i=>if i=j then f j else shrF f j i:=by
 funext i;unfold shrF
 by_cases h:i=j
 ·subst h;rw [if_pos (by omega),if_pos rfl]
 ·rw [if_neg h]
  by_cases h2:i < j
  ·rw [if_pos h2,if_pos (by omega)]
  ·rw [if_neg h2,if_neg (by omega)]
def shrD (l:List Nat) (k:Nat):Nat->Nat:=fun i=>(dig l i+dig l (i+1) * 4294967296) / 2^k % 4294967296
theorem shr_or {a b r:Nat} (ha:a < 4294967296) (hb:b < 4294967296):bits .or .u64 (a:Int) ((b:Int) * 4294967296) / 2^r % 4294967296=(((a+b * 4294967296) / 2^r % 4294967296:Nat):Int):=by
 have e:bits .or .u64 (a:Int) ((b:Int) * 4294967296)=((a+b * 4294967296:Nat):Int):=by
  rw [show ((b:Int) * 4294967296)=((b * 4294967296:Nat):Int) by omega,bits_or_u64_nat _ _ (by omega) (by omega)]
  congr 1
  exact or_add' (k:=32) (by omega) (by omega)
 rw [e];generalize a+b * 4294967296=X;simp
theorem shr_one {a r:Nat}:((a:Int) / 2^r % 4294967296)=(((a+0 * 4294967296) / 2^r % 4294967296:Nat):Int):=by simp
theorem nShr {w:World} {a:Option Addr} {l:List Nat} {v:Nat} (c k:Nat) (hk:k<=1048576) (hc:l.length<=c) (h:U32s w a l) (hv:lval l=v) (hr:l.length<=17592186044416):
  Calls Tryz.prog 174 #[.slice a l.length c,.int .i64 (k:Int)] w fun e w'=>∃ a1 c1,e=.returned (.tuple #[.slice a1 (limbs (v / 2^k)).length c1,.int .i64 0])/\(limbs (v / 2^k)).length<=c1/\U32s w' a1 (limbs (v / 2^k))/\Below w.heap.size w w':=by
 have HT:=hid (nTrim_is c hc h hv);have hle:(limbs v).length<=l.length:=by rw [<- hv];exact limbs_len_of_lval h.lim
 clear h hv hc
 go_enter Tryz.func174,Tryz.ntmps174
 go_wp2_with fail
 refine HT.out.mono ?_
 rintro e w' ⟨⟨a1,c1,rfl,hc1,hU⟩,rfl⟩;clear HT;have HSp:=hid (shr_split v k)
 by_cases hq:(limbs v).length<=k / 32
 ·have hz:v / 2^k=0:=by
   rw [HSp.out,Nat.div_eq_of_lt (Nat.lt_of_lt_of_le (limbs_len_lt v) (Nat.pow_le_pow_right (by omega) hq)),Nat.zero_div]
  have HZ:=hid hz;clear hz;go_wp2
  go_ret2
  exact ⟨none,0,by rw [HZ.out,limbs_zero];rfl,by rw [HZ.out,limbs_zero];simp,by rw [HZ.out,limbs_zero];exact U32s.nil _ _,Below.refl _ _⟩
 ·obtain ⟨p1,o1,rfl,hp1,_⟩:=hU.pick (show 0 < (limbs v).length by omega);have hne:¬ c1=k / 32:=by omega
  have hUd:=hU.drop (k / 32);have hLv:lval ((limbs v).drop (k / 32))=v / 4294967296^(k / 32):=by rw [lval_drop (lim_limbs v),lval_limbs]
  have hlen:(limbs v).length - k / 32=((limbs v).drop (k / 32)).length:=by simp
  generalize (limbs v).drop (k / 32)=LD at *;have hLD:LD.length<=17592186044416:=by omega
  obtain ⟨HL,HLv,HU⟩:=hd3 hUd.lim hLv hUd;obtain ⟨i0,hi,hz0,hz1,hz2⟩:=info_parts Tryz.infoU32;clear hU hUd hLv
  go_wp2_with (at_make;refine wpList_make_full _ rfl _ _ 49 rfl w.heap.size 109 i0 (.int .u32 0) 1 Tryz.underlying49 hi hz0 hz1 _ _ _ _ LD.length rfl rfl (by omega) (by omega) ?b2 ?b3 (Nat.le_refl _) ?_)
  case b2=>rw [hz2];omega
  case b3=>unfold maxLen;omega
  intro w0 hown0 hgrow0;have HB0:Hid (Blk w0 w.heap.size LD.length (shrF (shrD LD (k % 32)) 0) 109):=by
   refine Blk.congr (f:=fun _=>0) (Blk.of_own (base:=w.heap.size) ?_) (fun i hi=>by unfold shrF;rw [if_neg (by omega)])
   have e:(madeCells #[Value.int IntKind.u32 0] LD.length).toList=(List.range LD.length).map fun _=>Value.int .u32 ((0:Nat):Int):=by
    simp [toList_madeCells_one,List.map_const']
   rw [<- e];exact hown0
  have hb0:Below w.heap.size w w0:=(Below.refl _ _).grown hgrow0 (Nat.le_refl _) (fun k h=>by cases h);clear hown0 hgrow0 hz0 hz1 hz2 hi;go_wp2
  go_loopw [32] (fun i wr=>∃ j:Nat,j<=LD.length/\i=.int .i64 j/\Hid (Blk wr w.heap.size LD.length (shrF (shrD LD (k % 32)) j) 109)/\Below w.heap.size w wr) (fun i _=>LD.length - (intOf i).toNat)
  case atStart=>exact ⟨0,Nat.zero_le _,rfl,HB0,hb0⟩
  case round=>
   clear HB0 hb0;obtain ⟨j,hj,rfl,HB,hb⟩:=hrel
   by_cases hlt:j < LD.length
   ·obtain ⟨p2,o2,he,hp2,q1⟩:=(HU.out.below hb).pick hlt;obtain ⟨rfl,rfl⟩:p1=p2/\o1+k / 32=o2:=by cases he;exact ⟨rfl,rfl⟩
    have d0:=HB.out.cell (x:=j) hlt;have f0:=HB.out.free j;have hdl:=dig_lt HL.out j;clear he
    by_cases hlt2:j+1 < LD.length
    ·obtain ⟨p2,o2,he,_,q2⟩:=(HU.out.below hb).pick hlt2;obtain ⟨rfl,rfl⟩:p1=p2/\o1+k / 32=o2:=by cases he;exact ⟨rfl,rfl⟩
     have hdl2:=dig_lt HL.out (j+1);clear he;have HE:=hid (shr_or (r:=k % 32) hdl hdl2);go_wp2;go_roundw
     case rel=>
      refine ⟨j+1,hlt,by go_num,?_,hb.setCell (Nat.le_refl _) _⟩
      rw [HE.out];unfold Hid;rw [shrF_step];exact HB.out.set j _
     case measure=>simp [intOf];omega
    ·have hz:=dig_out (l:=LD) (i:=j+1) (by omega);obtain ⟨HE,HZ⟩:=hd2 (shr_one (a:=dig LD j) (r:=k % 32)) hz;clear hz;go_wp2;go_roundw
     case rel=>
      refine ⟨j+1,hlt,by go_num,?_,hb.setCell (Nat.le_refl _) _⟩
      rw [HE.out];unfold Hid;rw [shrF_step];have e:shrD LD (k % 32) j=(dig LD j+0 * 4294967296) / 2^(k % 32) % 4294967296:=by unfold shrD;rw [HZ.out]
      rw [e];exact HB.out.set j _
     case measure=>simp [intOf];omega
   ·obtain rfl:j=LD.length:=by omega
    have hll:((List.range LD.length).map (shrF (shrD LD (k % 32)) LD.length)).length=LD.length:=by simp
    have hU2:=HB.out.u32s (fun i hi=>by unfold shrF shrD;rw [if_pos hi];exact Nat.mod_lt _ (by omega)) (by omega);have hv2:lval ((List.range LD.length).map (shrF (shrD LD (k % 32)) LD.length))=v / 2^k:=by
     rw [lval_map,HSp.out, <- HLv.out, <- shr_all HL.out (show k % 32 < 32 by omega)];exact valN_congr (fun i hi=>by unfold shrF shrD;rw [if_pos hi])
    have hT:=nTrim_is LD.length (by omega) hU2 hv2;rw [hll] at hT;have HT:=hid hT;clear hll hU2 hv2 hT
    go_wp2_with fail
    refine HT.out.mono ?_
    rintro e w' ⟨⟨a2,c2,rfl,h1,h2⟩,rfl⟩;have HH:=hid h2;clear h2;go_wp2
    go_ret2
    exact ⟨a2,c2,rfl,h1,HH.out,hb⟩
theorem Below.drewN_refl (w:World) (n:Nat):Below w.heap.size w (w.drewN n):=⟨rfl,rfl,rfl,Nat.le_refl _,fun _ _=>rfl⟩
theorem nEstimate {w:World} {a b:Option Addr} {lu lv:List Nat} (c d n:Nat) (hn:lv.length=n) (hm:lu.length=n+1) (hs:n<=17592186044416) (hu:U32s w a lu) (hv:U32s w b lv) (hK:Knuth (dig lu) (dig lv) n):
  Calls Tryz.prog 173 #[.slice a (n+1) c,.slice b n d] w fun e w'=>(∃ q:Nat,e=.returned (.int .u64 (q:Int))/\valN (dig lu) (n+1) / valN (dig lv) n<=q/\q<=valN (dig lu) (n+1) / valN (dig lv) n+1/\q<=4294967296)/\Below w.heap.size w w':=by
 have hn2:=hK.n2;obtain ⟨pu,ou,rfl,hpu,cu⟩:=hu.open (by intro h;rw [h] at hm;simp at hm);obtain ⟨pv,ov,rfl,hpv,cv⟩:=hv.open (by intro h;rw [h] at hn;simp at hn;omega);have u0:=cu n (by omega);have u1:=cu (n - 1) (by omega);have u2:=cu (n - 2) (by omega);have v1:=cv (n - 1) (by omega);have v2:=cv (n - 2) (by omega);have b0:=hK.ul n;have b1:=hK.ul (n - 1);have b2:=hK.ul (n - 2);have b3:=hK.vl (n - 1);have b4:=hK.vl (n - 2);have b5:=hK.norm;have HK:=hid hK;have E0:bits .or .u64 ((dig lu n:Int) * 4294967296) (dig lu (n - 1):Int)=((topU (dig lu) n:Nat):Int):=short_or b0 b1;have hT:topU (dig lu) n < 18446744073709551616:=by unfold topU;omega
 have z1:((dig lv (n - 1):Int)==0)=false:=by rw [beq_eq_false_iff_ne];omega
 have z2:¬ dig lv (n - 1)=0:=by omega
 have D1:=tdiv_nat' (topU (dig lu) n) (dig lv (n - 1));have D2:=tmod_nat' (topU (dig lu) n) (dig lv (n - 1));have HS:=hid hK.start;clear hK hu hv cu cv hn hm;generalize hQd:valN (dig lu) (n+1) / valN (dig lv) n=Q at *;have HQd:=hid hQd;clear hQd;generalize hT':topU (dig lu) n=tp at *;have HT:=hid hT';clear hT';generalize hq0:tp / dig lv (n - 1)=q0 at *;generalize hr0:tp % dig lv (n - 1)=r0 at *;obtain ⟨HQ0,HR0⟩:=hd2 hq0 hr0;clear hq0 hr0;have hst2:q0<=4294967297:=HS.out.2;have hr1:r0 < 4294967296:=by have:=Nat.mod_lt tp (show 0 < dig lv (n - 1) by omega);have:=HR0.out;omega
 have HST:Hid (Q<=q0):=HS.out.1;have HEQ:Hid (q0 * dig lv (n - 1)+r0=tp):=by
  have:=Nat.div_add_mod tp (dig lv (n - 1));rw [HQ0.out,HR0.out,Nat.mul_comm] at this;exact this
 have HWq:IntKind.u64.wrap (q0:Int)=(q0:Int):=by rw [IntKind.wrap_u64];omega
 go_enter Tryz.func173,Tryz.ntmps173
 go_wp2
 go_quiet (fail)
 go_wp2
 go_quiet (fail)
 go_wp2
 go_loopw [7,8] (fun a b wr=>∃ q r:Nat,a=.int .u64 (q:Int)/\b=.int .u64 (r:Int)/\r < 4294967296/\q<=4294967297/\Hid (q * dig lv (n - 1)+r=tp)/\Hid (Q<=q)/\Hid (∃ n,wr=w.drewN n)) (fun a _ _=>(intOf a).toNat)
 case atStart=>exact ⟨q0,r0,rfl,rfl,hr1,hst2,HEQ,HST,drew2 _ _ _⟩
 case round=>
  clear HWq;obtain ⟨q,r,rfl,rfl,hr,hq,Heq,Hge,HWr⟩:=hrel;clear hT hst2 HST HEQ HQ0 HR0 HS D1 D2 E0 z1 z2 hr1;have HQ:=hid hq;clear hq;have HWn:Hid (∀ k,∃ n,wr.drewN k=w.drewN n):=fun k=>by obtain ⟨n,hn⟩:=HWr.out;rw [hn];exact drew2 w n k
  have HBl:Hid (∀ k,Below w.heap.size w (wr.drewN k)):=fun k=>by obtain ⟨n,hn⟩:=HWn.out k;rw [hn];exact Below.drewN_refl w n
  obtain ⟨n',hn'⟩:=HWr.out;have U2:wr.cell? ⟨pu,ou+(n - 2),none⟩=some (.int .u32 (dig lu (n - 2):Int)):=by rw [hn'];exact u2
  have V1:wr.cell? ⟨pv,ov+(n - 1),none⟩=some (.int .u32 (dig lv (n - 1):Int)):=by rw [hn'];exact v1
  have V2:wr.cell? ⟨pv,ov+(n - 2),none⟩=some (.int .u32 (dig lv (n - 2):Int)):=by rw [hn'];exact v2
  clear hn' u0 u1 u2 v1 v2
  -- what the round does where the test says yes
  have hround:Hid (∀ (hgo:Q < q),1<=q/\(q - 1) * dig lv (n - 1)+(r+dig lv (n - 1))=tp/\Q<=q - 1):=by
   intro hgo
   refine ⟨by omega,?_,by omega⟩
   have h1:=Heq.out;obtain ⟨p,rfl⟩:∃ p,q=p+1:=⟨q - 1,by omega⟩
   rw [Nat.add_sub_cancel];rw [Nat.add_mul,Nat.one_mul] at h1;omega
  have hgo:Hid (4294967296<=q ∨ r * 4294967296+dig lu (n - 2) < q * dig lv (n - 2)->Q < q):=by
   intro h
   rcases h with h | h
   ·have:=HK.out.quo_lt;rw [HQd.out] at this;omega
   ·have:=HK.out.too_great (by rw [HT.out];exact Heq.out) h;rwa [HQd.out] at this
  by_cases hyes:4294967296<=q ∨ r * 4294967296+dig lu (n - 2) < q * dig lv (n - 2)
  ·obtain ⟨g1,g2,g3⟩:=hround.out (hgo.out hyes);have hq1:(1:Int)<=(q:Int):=by omega
   have hq2:(q:Int)<=4294967297:=by have:=HQ.out;omega
   have eq1:(q:Int) - 1=((q - 1:Nat):Int):=by omega
   have er1:(r:Int)+(dig lv (n - 1):Int)=((r+dig lv (n - 1):Nat):Int):=by omega
   obtain ⟨EQ1,ER1,G1,G2,G3⟩:=hd5 eq1 er1 g1 g2 g3;clear eq1 er1 g1 g2 g3 hround hgo;have HN:=hid b5;clear b5
   -- the test of the round's end
   have hbreak:4294967296<=r+dig lv (n - 1)->Hid (q - 1<=Q+1):=by
    intro h;rw [<- HQd.out]
    refine HK.out.good (q:=q - 1) (r:=r+dig lv (n - 1)) (by rw [HT.out];exact G2.out) ?_ (by have:=HQ.out;omega)
    have h2:(q - 1) * dig lv (n - 2)<=4294967296 * dig lv (n - 2):=Nat.mul_le_mul_right _ (by have:=HQ.out;omega);have h3:4294967296 * dig lv (n - 2)<=4294967296 * 4294967296:=Nat.mul_le_mul_left _ (by omega);have h4:4294967296 * 4294967296<=(r+dig lv (n - 1)) * 4294967296:=Nat.mul_le_mul_right _ h;omega
   have HBr:=hid hbreak;clear hbreak
   by_cases hbig:4294967296<=q
   ·have t1:decide ((4294967296:Int)<=(q:Int))=true:=by rw [decide_eq_true_eq];omega
    clear hbig hyes
    by_cases hend:4294967296<=r+dig lv (n - 1)
    ·have t2:decide ((4294967296:Int)<=(r:Int)+(dig lv (n - 1):Int))=true:=by rw [decide_eq_true_eq];omega
     have HB:=HBr.out hend;clear hend;go_wp2
     go_quiet (fail)
     clear t1;go_wp2;go_ret;exact ⟨⟨q - 1,ret_int EQ1.out,G3.out,HB.out,by have:=HQ.out;omega⟩,HBl.out _⟩
    ·have t2:decide ((4294967296:Int)<=(r:Int)+(dig lv (n - 1):Int))=false:=by rw [decide_eq_false_iff_not];omega
     have HE:=hid hend;clear hend;go_wp2
     go_quiet (fail)
     clear t1;go_wp2;go_roundw
     case rel=>exact ⟨q - 1,r+dig lv (n - 1),by rw [EQ1.out],by rw [ER1.out],by have:=HE.out;omega,by have:=HQ.out;omega,G2.out,G3.out,HWn.out _⟩
     case measure=>have:=G1.out;simp [intOf];omega
   ·have t1:decide ((4294967296:Int)<=(q:Int))=false:=by rw [decide_eq_false_iff_not];omega
    have hgt:r * 4294967296+dig lu (n - 2) < q * dig lv (n - 2):=hyes.resolve_left hbig;have E1:bits .or .u64 ((r:Int) * 4294967296) (dig lu (n - 2):Int)=((r * 4294967296+dig lu (n - 2):Nat):Int):=short_or hr b2;have hbd:q * dig lv (n - 2) < 18446744073709551616:=by have:=mul_bd (show q < 4294967296 by omega) b4;omega
    have E2:IntKind.u64.wrap ((q:Int) * (dig lv (n - 2):Int))=((q * dig lv (n - 2):Nat):Int):=by
     rw [show ((q:Int) * (dig lv (n - 2):Int))=((q * dig lv (n - 2):Nat):Int) by simp,IntKind.wrap_u64];omega
    generalize q * dig lv (n - 2)=A at *;generalize r * 4294967296+dig lu (n - 2)=B at *;have t3:decide (B < A)=true:=by rw [decide_eq_true_eq];exact hgt
    have t4:decide ((B:Int) < (A:Int))=true:=by rw [decide_eq_true_eq];omega
    clear hbig hyes hbd
    by_cases hend:4294967296<=r+dig lv (n - 1)
    ·have t2:decide ((4294967296:Int)<=(r:Int)+(dig lv (n - 1):Int))=true:=by rw [decide_eq_true_eq];omega
     have HB:=HBr.out hend;clear hend;go_wp2
     go_quiet (fail)
     clear t1 t3 t4 E1 E2;go_wp2;go_ret;exact ⟨⟨q - 1,ret_int EQ1.out,G3.out,HB.out,by have:=HQ.out;omega⟩,HBl.out _⟩
    ·have t2:decide ((4294967296:Int)<=(r:Int)+(dig lv (n - 1):Int))=false:=by rw [decide_eq_false_iff_not];omega
     have HE:=hid hend;clear hend;go_wp2
     go_quiet (fail)
     clear t1 t3 t4 E1 E2;go_wp2;go_roundw
     case rel=>exact ⟨q - 1,r+dig lv (n - 1),by rw [EQ1.out],by rw [ER1.out],by have:=HE.out;omega,by have:=HQ.out;omega,G2.out,G3.out,HWn.out _⟩
     case measure=>have:=G1.out;simp [intOf];omega
  ·have hq3:q < 4294967296:=by omega
   have hle:q * dig lv (n - 2)<=r * 4294967296+dig lu (n - 2):=by omega
   have t1:decide ((4294967296:Int)<=(q:Int))=false:=by rw [decide_eq_false_iff_not];omega
   have hgood:=HK.out.good (by rw [HT.out];exact Heq.out) hle (by omega);rw [HQd.out] at hgood;have HG:=hid hgood;have E1:bits .or .u64 ((r:Int) * 4294967296) (dig lu (n - 2):Int)=((r * 4294967296+dig lu (n - 2):Nat):Int):=short_or hr b2;have hbd:q * dig lv (n - 2) < 18446744073709551616:=by have:=mul_bd (show q < 4294967296 by omega) b4;omega
   have E2:IntKind.u64.wrap ((q:Int) * (dig lv (n - 2):Int))=((q * dig lv (n - 2):Nat):Int):=by
    rw [show ((q:Int) * (dig lv (n - 2):Int))=((q * dig lv (n - 2):Nat):Int) by simp,IntKind.wrap_u64];omega
   clear hyes hgo hround hgood;generalize q * dig lv (n - 2)=A at *;generalize r * 4294967296+dig lu (n - 2)=B at *;have t3:decide (B < A)=false:=by rw [decide_eq_false_iff_not];omega
   have t4:decide ((B:Int) < (A:Int))=false:=by rw [decide_eq_false_iff_not];omega
   have HQ3:=hid hq3;clear hbd hle hq3 b5;go_wp2
   go_quiet (fail)
   clear t1 t3 t4 E1 E2;go_wp2;go_ret;exact ⟨⟨q,rfl,Hge.out,HG.out,by have:=HQ3.out;omega⟩,HBl.out _⟩
structure Only (g:Nat) (w w':World):Prop where
 os:w'.os=w.os
 tape:w'.tape=w.tape
 output:w'.output=w.output
 size:w'.heap.size=w.heap.size
 block:∀ k,k ≠ g->w'.heap[k]? =w.heap[k]?
theorem Only.refl (g:Nat) (w:World):Only g w w:=⟨rfl,rfl,rfl,rfl,fun _ _=>rfl⟩
theorem Only.trans {g:Nat} {a b c:World} (h:Only g a b) (k:Only g b c):Only g a c:=
 ⟨k.os.trans h.os,k.tape.trans h.tape,k.output.trans h.output,k.size.trans h.size,fun i hi=>(k.block i hi).trans (h.block i hi)⟩
theorem Only.setCell {g:Nat} {a w:World} (h:Only g a w) (o:Nat) (u:Value):Only g a (w.setCell ⟨g,o,none⟩ u):=
 h.trans ⟨rfl,rfl,rfl,by simp [World.setCell],fun k hk=>Below.heap_setCell _ _ _ _ hk⟩
theorem Only.cell {g:Nat} {w w':World} (h:Only g w w') {p:Addr} (hp:p.block ≠ g):w'.cell? p=w.cell? p:=World.cell?_of_block (w:=w) (h.block p.block hp)
theorem Only.u32s {g:Nat} {w w':World} (h:Only g w w') {b off:Nat} {l:List Nat} (hb:b ≠ g) (hu:U32s w (some ⟨b,off,none⟩) l):U32s w' (some ⟨b,off,none⟩) l:=by
 refine ⟨hu.lim,hu.len,hu.row.imp id ?_⟩
 rintro ⟨b',off',he,hs,hc⟩;cases he;exact ⟨b,off,rfl,by rw [h.size];exact hs,fun j d hj=>(h.cell (p:=⟨b,off+j,none⟩) hb).trans (hc j d hj)⟩
theorem Only.below {g B:Nat} {w w':World} (h:Only g w w') (hB:B<=g):Below B w w':=⟨h.os,h.tape,h.output,Nat.le_of_eq h.size.symm,fun k hk=>h.block k (by omega)⟩
def redF (F:Nat->Nat) (off:Nat) (f:Nat->Nat) (k:Nat):Nat->Nat:=fun x=>if off<=x/\x < off+k then f (x - off) else F x
theorem redF_zero (F:Nat->Nat) (off:Nat) (f:Nat->Nat):redF F off f 0=F:=by
 funext x;unfold redF;rw [if_neg (by omega)]
theorem redF_step (F:Nat->Nat) (off:Nat) (f:Nat->Nat) (k:Nat):redF F off f (k+1)=fun x=>if x=off+k then f k else redF F off f k x:=by
 funext x;unfold redF
 by_cases h:x=off+k
 ·subst h;rw [if_pos (by omega),if_pos rfl,Nat.add_sub_cancel_left]
 ·rw [if_neg h]
  by_cases h2:off<=x/\x < off+k
  ·rw [if_pos (by omega),if_pos h2]
  ·rw [if_neg (by omega),if_neg h2]
theorem redF_at (F:Nat->Nat) (off:Nat) (f:Nat->Nat) (k:Nat):redF F off f k (off+k)=F (off+k):=by unfold redF;rw [if_neg (by omega)]
theorem sub_low {a p b:Nat} (ha:a < 4294967296) (hp:p < 4294967296) (hb:b<=1):
  IntKind.u64.wrap (IntKind.u64.wrap ((a:Int) - (p:Int)) - (b:Int)) % 4294967296=((a+4294967296 * (if a < b+p then 1 else 0) - (b+p):Nat):Int):=by
 rw [IntKind.wrap_u64,IntKind.wrap_u64]
 split <;> omega
theorem sub_high {a p b:Nat} (ha:a < 4294967296) (hp:p < 4294967296) (hb:b<=1):
  IntKind.u64.wrap (IntKind.u64.wrap ((a:Int) - (p:Int)) - (b:Int)) / 9223372036854775808=((if a < b+p then 1 else 0:Nat):Int):=by
 rw [IntKind.wrap_u64,IntKind.wrap_u64]
 split <;> omega
theorem top_low' {a c b:Nat} (ha:a < 4294967296) (hc:c < 4294967296) (hb:b<=1) (h:a < b+c):IntKind.u64.wrap (IntKind.u64.wrap ((a:Int) - (c:Int)) - (b:Int)) % 4294967296=(((a+4294967296 - (b+c)) % 4294967296:Nat):Int):=by
 rw [IntKind.wrap_u64,IntKind.wrap_u64];omega
theorem top_zero' {a c b:Nat} (ha:a < 4294967296) (hc:c < 4294967296) (hb:b<=1) (h:a < b+c):(IntKind.u64.wrap (IntKind.u64.wrap ((a:Int) - (c:Int)) - (b:Int)) / 9223372036854775808==0)=false:=by
 rw [beq_eq_false_iff_ne,IntKind.wrap_u64,IntKind.wrap_u64];omega
theorem mul_carry {C q d:Nat} (hC:C < 4294967296) (hq:q<=4294967296) (hd:d < 4294967296):IntKind.u64.wrap ((C:Int)+IntKind.u64.wrap ((q:Int) * (d:Int)))=((C+q * d:Nat):Int):=by
 have h1:q * d<=4294967296 * 4294967295:=Nat.mul_le_mul hq (by omega);rw [show ((q:Int) * (d:Int))=((q * d:Nat):Int) by simp,IntKind.wrap_u64,IntKind.wrap_u64];generalize q * d=A at h1 ⊢;omega
theorem nReduce {w:World} {g N off T bv ov:Nat} {F u:Nat->Nat} {lv:List Nat} (c d n q:Nat) (hB:Blk w g N F T) (hF:∀ j,F j < 4294967296) (hn:lv.length=n) (hN:off+n+1<=N) (hN2:N<=17592186044416) (hne:bv ≠ g) (hv:U32s w (some ⟨bv,ov,none⟩) lv)
  (hu:∀ j,u j=F (off+j)) (hK:Knuth u (dig lv) n) (hq:valN u (n+1) / valN (dig lv) n<=q) (hq1:q<=valN u (n+1) / valN (dig lv) n+1) (hqB:q<=4294967296):
  Calls Tryz.prog 172 #[.slice (some ⟨g,off,none⟩) (n+1) c,.slice (some ⟨bv,ov,none⟩) n d,.int .u64 (q:Int)] w fun e w'=>e=.returned (.int .u32 ((valN u (n+1) / valN (dig lv) n:Nat):Int))/\
   Blk w' g N (redF F off (limbAt (valN u (n+1) % valN (dig lv) n)) (n+1)) T/\Only g w w':=by
 have hn2:=hK.n2;obtain ⟨HU,HV,HB0,HK,HFl,HQa⟩:=hd6 hu hv hB hK hF hq;have HQb:=hid hq1;obtain ⟨_,_,he,_,HC⟩:=hv.open (by intro h;rw [h] at hn;simp at hn;omega);cases he;rw [hn] at HC;have HCv:=hid HC;clear hv hB hF hK hq hq1 HC hu
 go_enter Tryz.func172,Tryz.ntmps172
 go_wp2
 go_loopw [7,8,17] (fun cv bv i wr=>∃ k C B:Nat,k<=n/\i=.int .i64 (k:Int)/\cv=.int .u64 (C:Int)/\bv=.int .u64 (B:Int)/\Hid (C=prodC q (dig lv) k)/\Hid (B=redB u (dig lv) q k)/\
  Hid (Blk wr g N (redF F off (redD u (dig lv) q) k) T)/\Only g w wr) (fun _ _ i _=>n - (intOf i).toNat)
 case atStart=>exact ⟨0,0,0,Nat.zero_le _,rfl,rfl,rfl,rfl,rfl,by unfold Hid;rw [redF_zero];exact HB0.out,Only.refl _ _⟩
 case round=>
  clear HB0;obtain ⟨k,C,B,hk,rfl,rfl,rfl,HCe,HBe,HB,hO⟩:=hrel
  by_cases hlt:k < n
  ·have c1:=HCv.out k hlt;rw [<- hO.cell (p:=⟨bv,ov+k,none⟩) hne] at c1;have c2:=HB.out.cell (x:=off+k) (by omega);rw [redF_at, <- HU.out] at c2;have f2:=HB.out.free (off+k);have hC:C < 4294967296:=by rw [HCe.out];exact prodC_lt hqB HK.out.vl k
   have hBb:B<=1:=by rw [HBe.out];exact redB_le _ _ _ _
   have hd:=HK.out.vl k;have hu:=HK.out.ul k;obtain ⟨HO,E0⟩:=hd2 hO (mul_carry hC hqB hd);have hX:(C+q * dig lv k) % 4294967296=prodD q (dig lv) k:=by rw [prodD_at,HCe.out]
   have hX2:(C+q * dig lv k) / 4294967296=prodC q (dig lv) (k+1):=by rw [prodC_succ,HCe.out]
   have hpd:=prodD_lt q (dig lv) k;have L:=sub_low (a:=u k) (p:=prodD q (dig lv) k) (b:=B) hu hpd hBb;have H:=sub_high (a:=u k) (p:=prodD q (dig lv) k) (b:=B) hu hpd hBb;rw [show (u k+4294967296 * (if u k < B+prodD q (dig lv) k then 1 else 0) - (B+prodD q (dig lv) k))=redD u (dig lv) q k by rw [HBe.out];rfl] at L;rw [show (if u k < B+prodD q (dig lv) k then 1 else 0)=redB u (dig lv) q (k+1) by rw [HBe.out];rfl] at H;obtain ⟨HX,HX2,HL,HH⟩:=hd4 hX hX2 L H;clear hO hX hX2 hpd L H;go_wp2;go_roundw
   case rel=>
    have e1:(((C+q * dig lv k:Nat):Int) % 4294967296)=((prodD q (dig lv) k:Nat):Int):=by rw [<- HX.out];omega
    have e2:(((C+q * dig lv k:Nat):Int) / 4294967296)=((prodC q (dig lv) (k+1):Nat):Int):=by rw [<- HX2.out];omega
    refine ⟨k+1,prodC q (dig lv) (k+1),redB u (dig lv) q (k+1),hlt,by go_num,?_,?_,rfl,rfl,?_,HO.out.setCell _ _⟩
    ·rw [E0.out,e2]
    ·rw [E0.out,e1,HH.out]
    ·rw [E0.out,e1,HL.out];unfold Hid;rw [redF_step];exact HB.out.set (off+k) _
   case measure=>simp [intOf];omega
  ·obtain rfl:k=n:=by omega
   have c2:=HB.out.cell (x:=off+k) (by omega);rw [redF_at, <- HU.out] at c2;have f2:=HB.out.free (off+k);have hC:C < 4294967296:=by rw [HCe.out];exact prodC_lt hqB HK.out.vl k
   have hBb:B<=1:=by rw [HBe.out];exact redB_le _ _ _ _
   have hu:=HK.out.ul k;have HO:=hid hO
   by_cases hs:B+C<=u k
   ·have hex:=HK.out.exact HQa.out HQb.out (by rw [<- HBe.out, <- HCe.out];exact hs);have hQ:=HK.out.quo_lt;obtain ⟨HQl,HX⟩:=hd2 hQ hex;clear hO hex hQ;go_wp2;go_ret;obtain ⟨x1,x2,x3⟩:=HX.out
    refine ⟨ret_int ?_,?_,HO.out.setCell _ _⟩
    ·have:=HQl.out;rw [<- x1] at this ⊢;omega
    ·rw [<- HBe.out, <- HCe.out] at x3;have hb:=HB.out.set (off+k) 0;rw [show (u k:Int) - C - B=((0:Nat):Int) by omega]
     refine hb.congr (fun x hx=>?_)
     have hlt:valN u (k+1) % valN (dig lv) k < 4294967296^k:=Nat.lt_trans (Nat.mod_lt _ HK.out.pos) (valN_lt (fun i _=>HK.out.vl i))
     by_cases h1:x=off+k
     ·rw [if_pos h1,h1];unfold redF;rw [if_pos (by omega),Nat.add_sub_cancel_left,limbAt_zero_of_lt hlt]
     ·rw [if_neg h1];unfold redF
      by_cases h2:off<=x/\x < off+k
      ·rw [if_pos h2,if_pos (by omega), <- x2,limbAt_valN (redD_lt HK.out.ul) (by omega)]
      ·rw [if_neg h2,if_neg (by omega)]
   ·have hs':u k < B+C:=by omega
    have hag:=HK.out.again HQa.out HQb.out hqB (by rw [<- HBe.out, <- HCe.out];exact hs');have hQ:=HK.out.quo_lt;obtain ⟨HQl,HX,E1⟩:=hd3 hQ hag (top_low' hu hC hBb hs');have E2:=top_zero' hu hC hBb hs';clear hO hag hQ hs;obtain ⟨G,hG⟩:∃ G:Nat->Nat,G=(fun x=>if x=off+k then (u k+4294967296 - (B+C)) % 4294967296 else redF F off (redD u (dig lv) q) k x):=⟨_,rfl⟩
    have HG:=hid hG;have hG1:Hid (∀ m,m < k->G (off+m)=redD u (dig lv) q m):=fun m hm=>by
     rw [HG.out];show (if off+m=off+k then _ else _)=_
     rw [if_neg (by omega)];unfold redF;rw [if_pos (by omega),Nat.add_sub_cancel_left]
    have hG2:Hid (G (off+k)=(u k+4294967296 - (B+C)) % 4294967296):=by rw [HG.out];exact if_pos rfl
    have hG3:Hid (∀ x,¬ (off<=x/\x<=off+k)->G x=F x):=fun x hx=>by
     rw [HG.out];show (if x=off+k then _ else _)=_
     rw [if_neg (by omega)];unfold redF;rw [if_neg (by omega)]
    clear hG;go_wp2
    go_loopw [7,72] (fun cv i wr=>∃ m C':Nat,m<=k/\i=.int .i64 (m:Int)/\cv=.int .u64 (C':Int)/\Hid (C'=carryA (redD u (dig lv) q) (dig lv) m)/\
     Hid (Blk wr g N (redF G off (digA (redD u (dig lv) q) (dig lv)) m) T)/\Only g w wr) (fun _ i _=>k - (intOf i).toNat)
    case atStart=>
     refine ⟨0,0,Nat.zero_le _,rfl,rfl,rfl,?_,HO.out.setCell _ _⟩
     rw [E1.out];unfold Hid;rw [redF_zero,HG.out];exact HB.out.set (off+k) _
    case round=>
     clear HB HO E1 E2 c2 f2;obtain ⟨m,C',hm,rfl,rfl,HC',HB,hO⟩:=hrel;have hC1:C'<=1:=by rw [HC'.out];exact carryA_le (redD_lt HK.out.ul) HK.out.vl
     by_cases hlt:m < k
     ·have c1:=HCv.out m hlt;rw [<- hO.cell (p:=⟨bv,ov+m,none⟩) hne] at c1;have c2:=HB.out.cell (x:=off+m) (by omega);rw [redF_at,hG1.out m hlt] at c2;have f2:=HB.out.free (off+m);have hd:=HK.out.vl m;have hr:=redD_lt (v:=dig lv) (q:=q) HK.out.ul m;have HO:=hid hO;clear hO;go_wp2;go_roundw
      case rel=>
       have e1:((C':Int)+((redD u (dig lv) q m:Int)+(dig lv m:Int))) % 4294967296=((digA (redD u (dig lv) q) (dig lv) m:Nat):Int):=by
        unfold digA;rw [<- HC'.out];omega
       have e2:((C':Int)+((redD u (dig lv) q m:Int)+(dig lv m:Int))) / 4294967296=((carryA (redD u (dig lv) q) (dig lv) (m+1):Nat):Int):=by
        simp only [carryA];rw [<- HC'.out];omega
       refine ⟨m+1,carryA (redD u (dig lv) q) (dig lv) (m+1),hlt,by go_num,by rw [e2],rfl,?_,HO.out.setCell _ _⟩
       rw [e1];unfold Hid;rw [redF_step];exact HB.out.set (off+m) _
      case measure=>simp [intOf];omega
     ·obtain rfl:m=k:=by omega
      have c2:=HB.out.cell (x:=off+m) (by omega);rw [redF_at,hG2.out] at c2;have f2:=HB.out.free (off+m);have HO:=hid hO;obtain ⟨x1,x2,x3⟩:=HX.out;rw [<- HBe.out, <- HCe.out, <- HC'.out] at x3;obtain ⟨X1,X2,X3⟩:=hd3 x1 x2 x3;have hq0:(1:Int)<=(q:Int):=by
       have:1<=q:=by rw [x1];exact Nat.le_add_left _ _
       omega
      generalize hW:(u m+4294967296 - (B+C)) % 4294967296=W at *;have HW:=hid hW;have hWl:W < 4294967296:=by omega
      clear hO x1 x2 x3 hW;go_wp2;go_ret
      refine ⟨ret_int ?_,?_,HO.out.setCell _ _⟩
      ·have h1:=HQl.out;have h2:=X1.out;generalize valN u (m+1) / valN (dig lv) m=Q at h1 h2 ⊢;omega
      ·have e:((W:Int)+(C':Int)) % 4294967296=((0:Nat):Int):=by have:=X3.out;have:=HW.out;omega
       rw [e];have hlt:valN u (m+1) % valN (dig lv) m < 4294967296^m:=Nat.lt_trans (Nat.mod_lt _ HK.out.pos) (valN_lt (fun i _=>HK.out.vl i))
       refine (HB.out.set (off+m) 0).congr (fun x hx=>?_)
       by_cases h1:x=off+m
       ·rw [if_pos h1,h1];unfold redF;rw [if_pos (by omega),Nat.add_sub_cancel_left,limbAt_zero_of_lt hlt]
       ·rw [if_neg h1];unfold redF
        by_cases h2:off<=x/\x < off+m
        ·rw [if_pos h2,if_pos (by omega), <- X2.out,limbAt_valN (digA_lt _ _) (by omega)]
        ·rw [if_neg h2,if_neg (by omega)];exact hG3.out x (by omega)
end Go.Proofs.YtfgmmghmmfmdgaaGreat
