/-
  Contracts of the functions that the statement reaches: RefE, RefF, RefG.
-/
import Derived.Test.YtfgmmghmmfmdgaaGreatK14
import Derived.Test.YtfgmmghmmfmdgaaGreatK6
set_option linter.all false
set_option maxRecDepth 100000
set_option maxHeartbeats 3200000
namespace Go.Proofs.YtfgmmghmmfmdgaaGreat
open Go.RowKit
open Go.Lib (hid)
theorem limbs_len2 {v:Nat} (h:(limbs v).length=2):v=dig (limbs v) 0+dig (limbs v) 1 * 4294967296:=by
 have e:=lval_limbs v;unfold lval at e;rw [h] at e;simp [valN] at e;omega
theorem limbs_len1 {v:Nat} (h:(limbs v).length=1):v=dig (limbs v) 0:=by
 have e:=lval_limbs v;unfold lval at e;rw [h] at e;simp [valN] at e;omega
theorem limbs_len0 {v:Nat} (h:(limbs v).length=0):v=0:=by
 have e:=lval_limbs v;unfold lval at e;rw [h] at e;simp [valN] at e;omega
def uintOK (v:Nat):Bool:=decide ((limbs v).length<=2)
theorem r1Uint {w:World} {a:Option Addr} {l:List Nat} {v:Nat} (c:Nat) (hc:l.length<=c) (h:U32s w a l) (hx:lval l=v) (hr:l.length * 4<=140737488355328):
  Calls Tryz.prog 141 #[.slice a l.length c] w fun e w'=>e=.returned (.tuple #[.int .u64 (if (limbs v).length<=2 then (v:Int) else 0),.bool (uintOK v)])/\Below w.heap.size w w':=by
 have hcall:=r1Make c hc h hr;rw [hx] at hcall;have HC:=hid hcall;clear hcall h hx hc hr
 go_enter Tryz.func141,Tryz.ntmps141
 go_wp2_with fail
 refine HC.out.mono ?_
 rintro e w' ⟨a1,c1,rfl,hc1,ha1,hb1,_⟩;obtain ⟨HU,HB⟩:=hd2 ha1 hb1;have hll:=ha1.len;clear ha1 hb1 hc1 HC;obtain ⟨n,hn⟩:∃ n,n=(limbs v).length:=⟨_,rfl⟩
 by_cases h0:(limbs v).length=0
 ·have HV:Hid ((v:Int)=0):=by unfold Hid;rw [limbs_len0 h0];rfl
  have HO:Hid (uintOK v=true):=by unfold Hid uintOK;rw [h0];rfl
  rw [h0];go_wp2
  go_ret2
  exact ⟨by rw [HO.out];simp [HV.out],HB.out⟩
 by_cases h1:(limbs v).length=1
 ·obtain ⟨p1,o1,rfl,_,q1⟩:=HU.out.pick (k:=0) (by omega);have HV:Hid (v=dig (limbs v) 0):=limbs_len1 h1;have HO:Hid (uintOK v=true):=by unfold Hid uintOK;rw [h1];rfl
  have hd:=dig_lt (lim_limbs v) 0;rw [Nat.add_zero] at q1;rw [h1];clear hn hll h0;generalize dig (limbs v) 0=x at *;go_wp2
  go_ret2
  exact ⟨by rw [HO.out];simp [HV.out],HB.out⟩
 by_cases h2:(limbs v).length=2
 ·obtain ⟨p1,o1,rfl,_,q1⟩:=HU.out.pick (k:=0) (by omega);obtain ⟨p2,o2,he,_,q2⟩:=HU.out.pick (k:=1) (by omega);cases he;have HV:Hid (v=dig (limbs v) 0+dig (limbs v) 1 * 4294967296):=limbs_len2 h2;have HO:Hid (uintOK v=true):=by unfold Hid uintOK;rw [h2];rfl
  have hd:=dig_lt (lim_limbs v) 0;have hd1:=dig_lt (lim_limbs v) 1;rw [Nat.add_zero] at q1;rw [h2];clear hn hll h0 h1;generalize dig (limbs v) 0=x at *;generalize dig (limbs v) 1=y at *;have E:bits .or .u64 (x:Int) ((y:Int) * 4294967296)=((x+y * 4294967296:Nat):Int):=by
   rw [show ((y:Int) * 4294967296)=((y * 4294967296:Nat):Int) by omega,bits_or_u64_nat _ _ (by omega) (by omega)]
   congr 1
   exact or_add' (k:=32) (by omega) (by omega)
  go_wp2
  go_quiet (fail)
  go_wp2
  go_ret2
  exact ⟨by rw [HO.out,HV.out];simp,HB.out.trans ⟨rfl,rfl,rfl,Nat.le_refl _,fun _ _=>rfl⟩⟩
 ·have HO:Hid (uintOK v=false):=by unfold Hid uintOK;exact decide_eq_false (by omega)
  have HI:Hid ((if (limbs v).length<=2 then (v:Int) else 0)=0):=if_neg (by omega);have d0:(((limbs v).length:Int)==0)=false:=by rw [beq_eq_false_iff_ne];omega
  have d1:(((limbs v).length:Int)==1)=false:=by rw [beq_eq_false_iff_ne];omega
  have d2:(((limbs v).length:Int)==2)=false:=by rw [beq_eq_false_iff_ne];omega
  go_wp2
  go_ret2
  exact ⟨by rw [HO.out];first | rfl | (rw [HI.out];rfl),HB.out⟩
theorem Calls.quiet_of_eq {P:Program} {f:FuncId} {args:Array Value} {w:World} {n:Nat} {v:Value}
  (h:Calls P f args (w.drewN n) fun e w'=>e=.returned v/\w.drewN n=w'):Calls P f args (w.drewN n) fun e w''=>e=.returned v/\∃ m,w''=w.drewN m:=
 h.mono fun _ _ ⟨he,hm⟩=>⟨he,n,hm.symm⟩
structure MulL (l m:List Nat) (q i:Nat) (f:Nat->Nat):Prop where
 val:valN f (i+q)=valN (dig l) i * lval m
 zero:∀ j,i+q<=j->f j=0
 lim:∀ j,f j < 4294967296
theorem MulL.start (l m:List Nat) (q:Nat):MulL l m q 0 (fun _=>0):=⟨by rw [valN_zero (fun _ _=>rfl)];simp [valN],fun _ _=>rfl,fun _=>by omega⟩
theorem MulL.step {l m:List Nat} {q i:Nat} {f:Nat->Nat} (h:MulL l m q i f) (hl:Lim l) (hm:Lim m) (hq:q=m.length):MulL l m q (i+1) (mulRow f (dig l i) (dig m) i q):=by
 refine ⟨?_,fun j hj=>?_,fun j=>mulRow_lt h.lim (dig_lt hl i) (fun j=>dig_lt hm j) i q j⟩
 ·rw [show i+1+q=i+q+1 by omega,mulRow_val,h.val,hq,show valN (dig m) m.length=lval m from rfl];simp only [valN];rw [Nat.add_mul,Nat.mul_right_comm]
 ·unfold mulRow;rw [if_neg (by omega),if_neg (by omega),if_neg (by omega)];exact h.zero j (by omega)
theorem redF_full {f:Nat->Nat} {x:Nat} {y:Nat->Nat} (hf:∀ j,f j < 4294967296) (hx:x < 4294967296) (hy:∀ j,y j < 4294967296) {i q:Nat} (h0:f (i+q)=0) (hy0:y q=0) (z:Nat):
  redF f i (mulD x y (fun k=>f (i+k))) (q+1) z=mulRow f x y i q z:=by
 rw [redF_step, <- redF_mulRow];show (if z=i+q then _ else _)=_
 by_cases h:z=i+q
 ·rw [if_pos h,if_pos h];unfold mulD;rw [hy0];show (_+_+f (i+q)) % _=_
  rw [h0];simp only [Nat.mul_zero,Nat.add_zero];exact Nat.mod_eq_of_lt (mulC_lt hx hy (fun k=>hf _) q)
 ·rw [if_neg h,if_neg h]
theorem r1Mul {w:World} {a b:Option Addr} {l m:List Nat} {x y:Nat} (c d:Nat) (h:U32s w a l) (g:U32s w b m) (hx:lval l=x) (hy:lval m=y) (hr:l.length+m.length<=8388608):
  Calls Tryz.prog 108 #[.slice a l.length c,.slice b m.length d] w (RetF w (x * y)):=by
 obtain ⟨HL,HM,HX,HY,HXv,HYv⟩:=hd6 h.lim g.lim h g hx hy;obtain ⟨i0,hi,hz3,hz4,hz5⟩:=info_parts Tryz.infoU32;clear h g hx hy;obtain ⟨p,hp⟩:∃ p,p=l.length:=⟨_,rfl⟩
 obtain ⟨q,hq⟩:∃ q,q=m.length:=⟨_,rfl⟩
 obtain ⟨HP,HQ⟩:=hd2 hp hq;have hlb:=fun wv (hu:U32s wv b m) k hk=>r1Limb (w:=wv) d k hk hu
 rw [<- hq] at hlb;have HLb:=hid hlb;rw [<- hp, <- hq] at hr ⊢;clear hp hq hlb
 go_enter Tryz.func108,Tryz.ntmps108
 go_wp2_with (at_make;refine wpList_make_full _ rfl _ _ 48 rfl w.heap.size 109 i0 (.int .u32 0) 1 Tryz.underlying48 hi hz3 hz4 _ _ _ _ (p+q+1) rfl rfl (by omega) (by omega) ?b2 ?b3 (Nat.le_refl _) ?_)
 case b2=>rw [hz5];omega
 case b3=>unfold maxLen;omega
 intro w1 hown hgrow;have HB0:Hid (Blk w1 w.heap.size (p+q+1) (fun _=>0) 109):=by
  refine Blk.of_own (base:=w.heap.size) ?_
  have e:(madeCells #[Value.int IntKind.u32 0] (p+q+1)).toList=(List.range (p+q+1)).map fun _=>Value.int .u32 ((0:Nat):Int):=by
   simp [toList_madeCells_one,List.map_const']
  rw [<- e];exact hown
 have hb1:Below w.heap.size w w1:=(Below.refl _ _).grown hgrow (Nat.le_refl _) (fun k h=>by cases h);clear hown hgrow hz3 hz4 hz5 hi;go_wp2
 go_loopw [6] (fun i wr=>∃ j:Nat,∃ f:Nat->Nat,j<=p/\i=.int .i64 (j:Int)/\Hid (MulL l m q j f)/\Hid (Blk wr w.heap.size (p+q+1) f 109)/\Below w.heap.size w wr) (fun i _=>p - (intOf i).toNat)
 case atStart=>exact ⟨0,fun _=>0,Nat.zero_le _,rfl,MulL.start _ _ _,HB0,hb1⟩
 case round=>
  clear HB0 hb1;obtain ⟨j,f,hj,rfl,HI,HBl,hb⟩:=hrel
  by_cases hlt:j < p
  ·obtain ⟨p1,o1,rfl,hp1,q1⟩:=(HX.out.below hb).pick (k:=j) (by rw [<- HP.out];exact hlt);have hdx:=dig_lt HL.out j;go_wp2
   go_loopw [7,8] (fun cv i wr=>∃ k C:Nat,k<=q+1/\i=.int .i64 (k:Int)/\cv=.int .u64 (C:Int)/\Hid (C=mulC (dig l j) (dig m) (fun k=>f (j+k)) k)/\
    Hid (Blk wr w.heap.size (p+q+1) (redF f j (mulD (dig l j) (dig m) (fun k=>f (j+k))) k) 109)/\Below w.heap.size w wr) (fun _ i _=>q+1 - (intOf i).toNat)
   case atStart=>exact ⟨0,0,Nat.zero_le _,rfl,rfl,rfl,by unfold Hid;rw [redF_zero];exact HBl.out,hb⟩
   case round=>
    clear HBl hb q1;obtain ⟨k,C,hk,rfl,rfl,HC,HBl,hb⟩:=hrel;have hC:C < 4294967296:=by rw [HC.out];exact mulC_lt hdx (fun i=>dig_lt HM.out i) (fun i=>HI.out.lim _) k
    by_cases hlt2:k < q+1
    ·obtain ⟨p1,o1,he,hp1,q1⟩:=(HX.out.below hb).pick (k:=j) (by rw [<- HP.out];exact hlt);cases he;have c2:=HBl.out.cell (x:=j+k) (by omega);rw [redF_at] at c2;have f2:=HBl.out.free (j+k);have hdy:=dig_lt HM.out k;have hfo:=HI.out.lim (j+k);have HE:=mul_carry2 hC hdx hdy hfo;obtain ⟨HYr,hB⟩:=hd2 (fun nq=>HLb.out _ ((HY.out.below hb).drewN nq) k (by omega)) hb;have s1:IntKind.i64.wrap ((j:Int)+(k:Int))=(j:Int)+(k:Int):=IntWalk.i64_in _ (by omega);have s2:0<=(j:Int)+(k:Int):=by omega
     have s3:((j:Int)+(k:Int)).toNat=j+k:=by omega
     have s4:(j:Int)+(k:Int) < ((p+q+1:Nat):Int):=by omega
     clear hb;go_wp2
     go_quiet ((go_at_call 147;exact Calls.quiet_of_eq (HYr.out _)))
     clear s1 s2 s3 s4;go_wp2;go_roundw
     case rel=>
      have e1:(((C+dig l j * dig m k+f (j+k):Nat):Int) % 4294967296)=((mulD (dig l j) (dig m) (fun k=>f (j+k)) k:Nat):Int):=by
       unfold mulD;rw [<- HC.out];generalize C+dig l j * dig m k+f (j+k)=A;omega
      have e2:(((C+dig l j * dig m k+f (j+k):Nat):Int) / 4294967296)=((mulC (dig l j) (dig m) (fun k=>f (j+k)) (k+1):Nat):Int):=by
       simp only [mulC];rw [<- HC.out];generalize C+dig l j * dig m k+f (j+k)=A;omega
      simp only [Int.natCast_add,Int.natCast_mul] at e1 e2
      refine ⟨k+1,_,hlt2,by go_num,by rw [e2],rfl,?_,(below_drewN hB.out _).setCell (Nat.le_refl _) _⟩
      rw [e1];unfold Hid;rw [redF_step];exact (HBl.out.drewN _).set (j+k) _
     case measure=>simp [intOf];omega
    ·obtain rfl:k=q+1:=by omega
     have hB:=hid hb;clear hb;go_wp2;go_roundw
     case rel=>
      refine ⟨j+1,mulRow f (dig l j) (dig m) j q,hlt,by go_num,HI.out.step HL.out HM.out HQ.out,?_,hB.out⟩
      exact HBl.out.congr (fun z hz=>redF_full HI.out.lim hdx (dig_lt HM.out) (HI.out.zero _ (Nat.le_refl _)) (dig_out (by rw [HQ.out];exact Nat.le_refl _)) z)
     case measure=>simp [intOf];omega
  ·obtain rfl:j=p:=by omega
   have hU:=HBl.out.u32s (fun i _=>HI.out.lim i) (by omega);have hv:lval ((List.range (j+q+1)).map f)=x * y:=by
    have hd:=HI.out.val;rw [lval_map];show valN f (j+q)+f (j+q) * _=_
    rw [hd,HI.out.zero _ (Nat.le_refl _),Nat.zero_mul,Nat.add_zero,HP.out,show valN (dig l) l.length=lval l from rfl,HXv.out,HYv.out]
   have HT:=r1Make (j+q+1) (by simp) hU (by simp;omega);rw [hv] at HT;simp only [List.length_map,List.length_range] at HT;have HT':=hid HT;clear HT hU hv
   go_wp2_with fail
   refine HT'.out.mono ?_
   rintro e w' ⟨a6,c6,rfl,h8,h9,h10,h11⟩;obtain ⟨HB2,HF2⟩:=hd2 (hb.trans (h10.mono hb.size)) (h11.mono hb.size);clear h10 h11;go_wp2;go_ret;exact ⟨a6,c6,rfl,h8,h9,HB2.out,HF2.out⟩
theorem lval_app (a b:List Nat):lval (a++b)=lval a+4294967296^a.length * lval b:=by
 induction a with
 | nil=>simp [lval_nil]
 | cons d a ih=>rw [List.cons_append,lval_cons,lval_cons,ih,List.length_cons,Nat.pow_succ,Nat.mul_add,Nat.add_assoc,Nat.mul_comm (4294967296^a.length) 4294967296,Nat.mul_assoc]
theorem lval_rep (z:Nat):lval (List.replicate z 0)=0:=by
 induction z with
 | zero=>rfl
 | succ z ih=>rw [List.replicate_succ,lval_cons,ih]
theorem lval_one (d:Nat):lval [d]=d:=by rw [lval_cons,lval_nil];omega
def shlL (l:List Nat) (z s j:Nat):List Nat:=List.replicate z 0++(List.range j).map (mulD (2^s) (dig l) fun _=>0)
theorem shlL_succ (l:List Nat) (z s j:Nat):shlL l z s (j+1)=shlL l z s j++[mulD (2^s) (dig l) (fun _=>0) j]:=by
 unfold shlL;rw [List.range_succ,List.map_append,List.append_assoc];rfl
theorem shlL_len (l:List Nat) (z s j:Nat):(shlL l z s j).length=z+j:=by simp [shlL]
theorem shlL_lim (l:List Nat) (z s j:Nat):Lim (shlL l z s j):=by
 intro d hd;unfold shlL at hd
 rcases List.mem_append.1 hd with h | h
 ·have:=(List.mem_replicate.1 h).2;omega
 ·obtain ⟨i,_,rfl⟩:=List.mem_map.1 h;exact mulD_lt _ _ _ _
theorem shl_val (l:List Nat) (z s:Nat):lval (shlL l z s l.length++[mulC (2^s) (dig l) (fun _=>0) l.length])=lval l * 2^(32 * z+s):=by
 unfold shlL;rw [List.append_assoc,lval_app,lval_rep,List.length_replicate,Nat.zero_add,lval_app,lval_map,lval_one,List.length_map,List.length_range];have h:=mulV (2^s) (dig l) (fun _=>0) l.length;rw [valN_zero (f:=fun _=>0) (fun _ _=>rfl),Nat.add_zero,show valN (dig l) l.length=lval l from rfl] at h;rw [Nat.mul_comm (4294967296^l.length),h,Nat.pow_add, <- bpow_two,Nat.mul_comm (2^s),Nat.mul_comm,Nat.mul_assoc,Nat.mul_comm (2^s)]
theorem mulC_small {x:Nat} {y:Nat->Nat} (hx:0 < x) (hy:∀ i,y i < 4294967296) (n:Nat):mulC x y (fun _=>0) n < x:=by
 induction n with
 | zero=>exact hx
 | succ n ih=>
  simp only [mulC,Nat.add_zero]
  refine Nat.div_lt_of_lt_mul ?_
  have h:=Nat.mul_le_mul_left x (show y n<=4294967295 from by have:=hy n;omega);omega
theorem shl_or {C x s:Nat} (hC:C < 2^s) (hx:x < 4294967296) (hs:s < 32):bits .or .u64 (C:Int) (IntKind.u64.wrap ((x:Int) * 2^s))=((C+2^s * x:Nat):Int):=by
 have h2:2^s<=2^31:=Nat.pow_le_pow_right (by omega) (by omega);have h3:=Nat.mul_le_mul (show x<=4294967295 by omega) h2;rw [shl_wrap hx hs,bits_or_u64_nat _ _ (by omega) (by omega),Nat.mul_comm (2^s)]
 congr 1
 exact or_add' hC (Nat.mul_mod_left _ _)
theorem r1shl {w:World} {a:Option Addr} {l:List Nat} {v:Nat} (c z s k:Nat) (hk:k=32 * z+s) (hs:s < 32) (hz:z<=1048576) (h:U32s w a l) (hx:lval l=v) (hr:l.length<=4194304):
  Calls Tryz.prog 143 #[.slice a l.length c,.int .i64 (k:Int)] w (RetF w (v * 2^k)):=by
 obtain ⟨HL,HX,HXv,HV⟩:=hd4 h.lim h hx (shl_val l z s);rw [<- hk,hx] at HV;have hkz:(k:Int) / 32=(z:Int):=by omega
 have hks:(k:Int) % 32=(s:Int):=by omega
 have hkn:k % 32=s:=by omega
 obtain ⟨i0,hi,hz3,hz4,hz5⟩:=info_parts Tryz.infoU32;clear h hx hk
 go_enter Tryz.func143,Tryz.ntmps143
 go_wp2_with (at_make;refine wpList_make_full _ rfl _ _ 48 rfl w.heap.size 109 i0 (.int .u32 0) 1 Tryz.underlying48 hi hz3 hz4 _ _ _ _ z rfl rfl (by omega) (by omega) ?b2 ?b3 (Nat.le_refl _) ?_)
 case b2=>rw [hz5];omega
 case b3=>unfold maxLen;omega
 intro w1 hown hgrow;have HO:Hid (w1.ownsRow w.heap.size 109 1 (.slice (some ⟨w.heap.size,0,none⟩) z z) (z+0) ((shlL l z s 0).map u32v)):=by
  have e:(madeCells #[Value.int IntKind.u32 0] z).toList=(shlL l z s 0).map u32v:=by
   simp [toList_madeCells_one,shlL,u32v]
  rw [<- e];exact hown
 have hb1:Below w.heap.size w w1:=(Below.refl _ _).grown hgrow (Nat.le_refl _) (fun k h=>by cases h);clear hown hgrow hz3 hz4 hz5 hi;go_wp2;clear hkz
 go_loopw [5,6,7] (fun o cy i wr=>∃ j C:Nat,j<=l.length/\i=.int .i64 (j:Int)/\cy=.int .u64 (C:Int)/\Hid (C=mulC (2^s) (dig l) (fun _=>0) j)/\Hid (wr.ownsRow w.heap.size 109 1 o (z+j) ((shlL l z s j).map u32v))/\Hid (Below w.heap.size w wr)) (fun _ _ i _=>l.length - (intOf i).toNat)
 case atStart=>exact ⟨0,0,Nat.zero_le _,rfl,rfl,rfl,HO,hb1⟩
 case round=>
  clear HO hb1;obtain ⟨j,C,hj,rfl,rfl,HC,hO,hBw⟩:=hrel;obtain ⟨HKS,HKN⟩:=hd2 hks hkn;clear hks hkn;have hC:C < 2^s:=by rw [HC.out];exact mulC_small (Nat.two_pow_pos s) (dig_lt HL.out) j
  have hC1:=Nat.lt_of_lt_of_le hC (Nat.pow_le_pow_right (show 0 < 2 by omega) (Nat.le_of_lt hs))
  by_cases hlt:j < l.length
  ·obtain ⟨p1,o1,rfl,hp1,q1⟩:=(HX.out.below hBw.out).pick hlt;have hd:=dig_lt HL.out j;have E:=shl_or hC hd hs;have HSc:Hid ((shlL l z s (j+1)).map u32v=(shlL l z s j).map u32v++[.int .u32 (((C+2^s * dig l j) % 4294967296:Nat):Int)]):=by
    unfold Hid;rw [shlL_succ,List.map_append,HC.out];rfl
   have HCn:Hid ((C+2^s * dig l j) / 4294967296=mulC (2^s) (dig l) (fun _=>0) (j+1)):=by unfold Hid;rw [HC.out];rfl
   have hT:C+2^s * dig l j < 18446744073709551616:=by
    have h2:2^s<=2^31:=Nat.pow_le_pow_right (by omega) (by omega);have h3:=Nat.mul_le_mul h2 (show dig l j<=4294967295 by omega);omega
   generalize dig l j=x at *;generalize C+2^s * x=T at *;clear hC;have hks:=HKS.out;have hkn:=HKN.out
   go_wp2_with (at_builtin;refine wpList_app1 rfl (.tmp 27) (.tmp 30) 48 rfl w.heap.size 109 (.int .u32 0) 4 Tryz.underlying48 Tryz.infoU32 rfl _ (z+j) _ rfl hO.out _ rfl rfl (by omega) (by unfold maxLen;omega) hBw.out.size ?_;intro v' w' hown hg hn)
   go_roundw
   case rel=>
    refine ⟨j+1,T / 4294967296,hlt,by go_num,by go_num,HCn.out,?_,hBw.out.grown hg hBw.out.size (fun k hk=>(hO.out.lt k hk).1)⟩
    unfold Hid;rw [HSc.out];exact hown
   case measure=>simp [intOf];omega
  ·obtain rfl:j=l.length:=by omega
   have HV2:=hid HV.out;rw [<- HC.out] at HV2;have hLim:Hid (Lim (shlL l z s l.length++[C])):=by
    intro dd hd
    rcases List.mem_append.1 hd with h | h
    ·exact shlL_lim _ _ _ _ dd h
    ·have:=List.mem_singleton.1 h;omega
   have HLn:Hid ((shlL l z s l.length++[C]).length=z+l.length+1):=by unfold Hid;simp [shlL_len]
   have HMp:Hid ((shlL l z s l.length++[C]).map u32v=(shlL l z s l.length).map u32v++[.int .u32 (C:Int)]):=by unfold Hid;rw [List.map_append];rfl
   generalize shlL l z s l.length++[C]=R at *;have hcm:((C:Int)) % 4294967296=(C:Int):=by omega
   go_wp2_with (at_builtin;refine wpList_app1 rfl (.tmp 34) (.tmp 37) 48 rfl w.heap.size 109 (.int .u32 0) 4 Tryz.underlying48 Tryz.infoU32 rfl _ (z+l.length) _ rfl hO.out _ rfl rfl (by omega) (by unfold maxLen;omega) hBw.out.size ?_;intro v' w' hown hg hn)
   have hown':w'.ownsRow w.heap.size 109 1 v' R.length (R.map fun d:Nat=>Value.int .u32 (d:Int)):=by
    rw [HLn.out];have h:(R.map fun d:Nat=>Value.int .u32 (d:Int))=(shlL l z s l.length).map u32v++[.int .u32 (C:Int)]:=HMp.out;rw [h];exact hown
   obtain ⟨a',c',rfl,h1,h2⟩:=U32s.own hown' hLim.out (by rw [HLn.out];omega);have HBl:=hid (hBw.out.grown hg hBw.out.size (fun k hk=>(hO.out.lt k hk).1));have hcall:=r1Make c' h1 h2 (by rw [HLn.out];omega);rw [HV2.out] at hcall;have HC:=hid hcall;clear hown hown' hg hn hcall h1 h2 hcm hO hBw
   go_wp2_with fail
   refine HC.out.mono ?_
   rintro e w3 ⟨a3,c3,rfl,h1,h2,h3,h4⟩;have HB3:=htr HBl h3;have HF3:=hid (h4.mono HBl.out.size);clear h3 h4;go_wp2;go_ret;exact ⟨a3,c3,rfl,h1,h2,HB3.out,HF3.out⟩
def BitsIs (v n:Nat):Prop:=v < 2^n/\(n=0 ∨ 2^(n - 1)<=v)
theorem BitsIs.top {v t:Nat} (hp:0 < (limbs v).length) (h:BitsIs (dig (limbs v) ((limbs v).length - 1)) t) (h0:dig (limbs v) ((limbs v).length - 1) ≠ 0):BitsIs v (32 * ((limbs v).length - 1)+t):=by
 obtain ⟨lo,h1,h2⟩:=top_split v hp;generalize dig (limbs v) ((limbs v).length - 1)=d at *;rw [bpow_two] at h1 h2;generalize 32 * ((limbs v).length - 1)=m at *;obtain ⟨h3,h4⟩:=h;subst h2;have ht:t ≠ 0:=by rintro rfl;simp at h3;exact h0 h3
 refine ⟨?_,.inr ?_⟩
 ·rw [Nat.pow_add];have:=Nat.mul_le_mul_right (2^m) (show d+1<=2^t by omega);rw [Nat.add_mul,Nat.one_mul] at this;rw [Nat.mul_comm (2^m)];omega
 ·rw [show m+t - 1=(t - 1)+m by omega,Nat.pow_add];have:=Nat.mul_le_mul_right (2^m) (h4.resolve_left ht);omega
def RetBits (w:World) (v:Nat) (e:Ending) (w':World):Prop:=∃ n:Nat,e=.returned (.int .i64 (n:Int))/\BitsIs v n/\n<=32 * (limbs v).length/\Below w.heap.size w w'
theorem r1Bits {w:World} {a:Option Addr} {l:List Nat} {v:Nat} (c:Nat) (hc:l.length<=c) (h:U32s w a l) (hx:lval l=v) (hr:l.length<=17592186044416):
  Calls Tryz.prog 142 #[.slice a l.length c] w (RetBits w v):=by
 have hM:=r1Make c hc h (by omega);have hle:(limbs v).length<=l.length:=by rw [<- hx];exact limbs_len_of_lval h.lim
 rw [hx] at hM;have HM:=hid hM;clear hM h hx hc
 go_enter Tryz.func142,Tryz.ntmps142
 go_wp2_with fail
 refine HM.out.mono ?_
 rintro e w1 ⟨a1,c1,rfl,hc1,ha1,hb1,_⟩;have HB:=hid hb1;clear HM hb1
 by_cases hv:v=0
 ·subst hv;rw [limbs_zero] at *;go_wp2;go_ret;exact ⟨0,rfl,⟨by omega,.inl rfl⟩,by omega,HB.out⟩
 ·have hp:0 < (limbs v).length:=List.length_pos_iff.2 (fun e=>by have:=limbs_nil.1 e;omega);obtain ⟨p1,o1,rfl,hp1,q1⟩:=ha1.pick (show (limbs v).length - 1 < (limbs v).length by omega);have hz1:(((limbs v).length:Int)==0)=false:=by rw [beq_eq_false_iff_ne];omega
  have hd:=dig_lt (lim_limbs v) ((limbs v).length - 1);have h0:dig (limbs v) ((limbs v).length - 1) ≠ 0:=(limbs_canon v).resolve_left (List.length_pos_iff.1 hp);have HT:=hid (fun t (h:BitsIs (dig (limbs v) ((limbs v).length - 1)) t)=>BitsIs.top hp h h0);clear ha1 h0 hv;generalize dig (limbs v) ((limbs v).length - 1)=d at *;generalize hn:(limbs v).length=n at *;have HN:=hid hn;clear hn;go_wp2
  go_loopw [3,4] (fun k x wr=>∃ j X:Nat,k=.int .i64 ((32 * (n - 1)+j:Nat):Int)/\x=.int .u32 (X:Int)/\Hid (X=d / 2^j)/\Hid (j=0 ∨ 2^(j - 1)<=d)/\j<=32/\wr=w1) (fun _ x _=>(intOf x).toNat)
  case atStart=>exact ⟨0,d,by simp;omega,rfl,by simp [Hid],.inl rfl,by omega,rfl⟩
  case round=>
   obtain ⟨j,X,rfl,rfl,HX,HJ,hj,rfl⟩:=hrel
   by_cases hX:X=0
   ·subst hX;have hlt:Hid (BitsIs d j):=by
     refine ⟨?_,HJ.out⟩
     have:=HX.out.symm
     rcases Nat.lt_or_ge d (2^j) with h | h
     ·exact h
     ·exact absurd (Nat.div_pos h (Nat.two_pow_pos j)) (by omega)
    go_wp2;go_ret;exact ⟨_,rfl,HT.out j hlt.out,by rw [HN.out];omega,HB.out⟩
   ·have hX1:X<=d:=by rw [HX.out];exact Nat.div_le_self _ _
    have hge:2^j<=d:=by
     rcases Nat.lt_or_ge d (2^j) with h | h
     ·exact absurd (HX.out.trans (Nat.div_eq_of_lt h)) hX
     ·exact h
    have hj2:j < 32:=by
     rcases Nat.lt_or_ge j 32 with h | h
     ·exact h
     ·have:=Nat.pow_le_pow_right (show 0 < 2 by omega) h;omega
    have HX2:Hid (X / 2=d / 2^(j+1)):=by unfold Hid;rw [HX.out,Nat.pow_succ,Nat.div_div_eq_div_mul]
    have hXd:decide ((0:Int) < (X:Int))=true:=by rw [decide_eq_true_eq];omega
    have HG:=hid hge;clear hge;go_wp2;go_roundw
    case rel=>exact ⟨j+1,X / 2,by go_num,by go_num,HX2,.inr (by rw [Nat.add_sub_cancel];exact HG.out),by omega,by first | rfl | trivial⟩
    case measure=>simp [intOf];omega
end Go.Proofs.YtfgmmghmmfmdgaaGreat
