/-
  Contracts of the functions that the statement reaches: NatL, NatN.
-/
import Derived.Test.YtfgmmghmmfmdgaaGreatK6
set_option linter.all false
set_option maxRecDepth 100000
set_option maxHeartbeats 3200000
namespace Go.Proofs.YtfgmmghmmfmdgaaGreat
open Go.RowKit
open Go.Lib (hid)
theorem add_bd {A c:Nat} (hA:A < 4294967296) (hc:c<=1):IntKind.u64.wrap ((c:Int)+(A:Int))=((c+A:Nat):Int):=by
 rw [IntKind.wrap_u64];omega
theorem add_laid {P Q:List Nat} {p:Nat} (hp:P.length=p) (hq:Q.length<=p):
  lval ((List.range (p+1)).map fun z=>if z=p then carryA (dig P) (dig Q) p else redF (fun _=>0) 0 (digA (dig P) (dig Q)) p z)=lval P+lval Q:=by
 rw [lval_map];show valN _ p+_ * 4294967296^p=_
 simp only [if_true];rw [valN_congr (n:=p) (g:=digA (dig P) (dig Q)) (fun i hi=>by unfold redF;rw [if_neg (by omega),if_pos (by omega),Nat.sub_zero]),addV];unfold lval;rw [hp]
 congr 1
 exact valN_more hq (fun i h1 _=>dig_out h1)
theorem nAdd_ge {w:World} {a b:Option Addr} {l m:List Nat} {x y:Nat} (c d:Nat) (hc:l.length<=c) (hd:m.length<=d) (h:U32s w a l) (g:U32s w b m) (hx:lval l=x) (hy:lval m=y) (hr:l.length+m.length<=17592186044416) (hlt:(limbs y).length<=(limbs x).length):
  Calls Tryz.prog 178 #[.slice a l.length c,.slice b m.length d] w (RetN w (x+y)):=by
 obtain ⟨HA,HB⟩:=hd2 (nTrim_is c hc h hx) (nTrim_is d hd g hy);have hle:(limbs x).length<=l.length:=by rw [<- hx];exact limbs_len_of_lval h.lim
 have hle2:(limbs y).length<=m.length:=by rw [<- hy];exact limbs_len_of_lval g.lim
 have hrr:(limbs x).length+(limbs y).length<=17592186044416:=by omega
 obtain ⟨i0,hi,hz3,hz4,hz5⟩:=info_parts Tryz.infoU32;have d1:decide ((limbs x).length < (limbs y).length)=false:=decide_eq_false (by omega);have HSum:=hid (add_laid (P:=limbs x) (Q:=limbs y) rfl (by omega));clear h g hx hy hc hd hr hle hle2
 go_enter Tryz.func178,Tryz.ntmps178
 go_wp2_with fail
 refine HA.out.mono ?_
 rintro e w' ⟨⟨a1,c1,rfl,hc1,ha1⟩,rfl⟩
 go_wp2_with fail
 refine HB.out.mono ?_
 rintro e w' ⟨⟨b1,d1',rfl,hd1,hb1⟩,rfl⟩;obtain ⟨HX,HY⟩:=hd2 ha1 hb1;have HCom:Hid (lval (limbs x)+lval (limbs y)=x+y):=by unfold Hid;rw [lval_limbs,lval_limbs]
 clear HA HB ha1 hb1;obtain ⟨p,hp⟩:∃ p,p=(limbs x).length:=⟨_,rfl⟩
 obtain ⟨q,hq⟩:∃ q,q=(limbs y).length:=⟨_,rfl⟩
 obtain ⟨HP,HQ⟩:=hd2 hp hq;rw [<- hp] at hc1 hlt d1 hrr HSum ⊢;rw [<- hq] at hd1 hlt d1 hrr ⊢;clear hp hq;have hqp:q<=p:=by omega
 clear hlt
 go_wp2_with (at_make;refine wpList_make_full _ rfl _ _ 49 rfl w.heap.size 109 i0 (.int .u32 0) 1 Tryz.underlying49 hi hz3 hz4 _ _ _ _ (p+1) rfl rfl (by omega) (by omega) ?b2 ?b3 (Nat.le_refl _) ?_)
 case b2=>rw [hz5];omega
 case b3=>unfold maxLen;omega
 intro w1 hown hgrow;have HB0:Hid (Blk w1 w.heap.size (p+1) (fun _=>0) 109):=by
  refine Blk.of_own (base:=w.heap.size) ?_
  have e:(madeCells #[Value.int IntKind.u32 0] (p+1)).toList=(List.range (p+1)).map fun _=>Value.int .u32 ((0:Nat):Int):=by
   simp [toList_madeCells_one,List.map_const']
  rw [<- e];exact hown
 have hb1:Below w.heap.size w w1:=(Below.refl _ _).grown hgrow (Nat.le_refl _) (fun k h=>by cases h);clear hown hgrow hz3 hz4 hz5 hi d1;go_wp2
 go_loopw [6,26] (fun cv i wr=>∃ k:Nat,k<=p/\i=.int .i64 (k:Int)/\cv=.int .u64 (carryA (dig (limbs x)) (dig (limbs y)) k:Int)/\Hid (Blk wr w.heap.size (p+1) (redF (fun _=>0) 0 (digA (dig (limbs x)) (dig (limbs y))) k) 109)/\Below w.heap.size w wr) (fun _ i _=>p - (intOf i).toNat)
 case atStart=>exact ⟨0,Nat.zero_le _,rfl,rfl,by unfold Hid;rw [redF_zero];exact HB0,hb1⟩
 case round=>
  clear HB0 hb1;obtain ⟨k,hk,rfl,rfl,HBl,hb⟩:=hrel;have hcy:=carryA_le (n:=k) (dig_lt (lim_limbs x)) (dig_lt (lim_limbs y));have HBc:=hid hb
  by_cases hlt:k < p
  ·obtain ⟨p1,o1,rfl,hp1,q1⟩:=(HX.out.below hb).pick (k:=k) (by rw [<- HP.out];exact hlt);have hdx:=dig_lt (lim_limbs x) k;have hdy:=dig_lt (lim_limbs y) k;have c2:=HBl.out.cell (x:=k) (by omega);have f2:=HBl.out.free k;have HE:=hid (add_bd hdx hcy);have HCn:Hid (carryA (dig (limbs x)) (dig (limbs y)) (k+1)=(carryA (dig (limbs x)) (dig (limbs y)) k+dig (limbs x) k+dig (limbs y) k) / 4294967296):=rfl;have HDn:Hid (digA (dig (limbs x)) (dig (limbs y)) k=(carryA (dig (limbs x)) (dig (limbs y)) k+dig (limbs x) k+dig (limbs y) k) % 4294967296):=rfl;have HBl2:=hid (fun (v:Nat) (hv:v=digA (dig (limbs x)) (dig (limbs y)) k)=>(show Blk (wr.setCell ⟨w.heap.size,k,none⟩ (.int .u32 (v:Int))) w.heap.size (p+1) (redF (fun _=>0) 0 (digA (dig (limbs x)) (dig (limbs y))) (k+1)) 109 from by
    rw [redF_step,Nat.zero_add, <- hv];exact HBl.out.set k v))
   by_cases hkq:k < q
   ·obtain ⟨p2,o2,rfl,hp2,q2⟩:=(HY.out.below hb).pick (k:=k) (by rw [<- HQ.out];exact hkq);generalize dig (limbs x) k=dx at *;generalize dig (limbs y) k=dy at *;generalize carryA (dig (limbs x)) (dig (limbs y)) k=cy at *;clear hb;go_wp2;go_roundw
    case rel=>exact ⟨k+1,hlt,by go_num,by rw [HCn.out];go_num,HBl2.out _ (by rw [HDn.out];rfl),HBc.out.setCell (Nat.le_refl _) _⟩
    case measure=>simp [intOf];omega
   ·have hz:dig (limbs y) k=0:=dig_out (by rw [<- HQ.out];omega);rw [hz] at HCn HDn;have d2:decide (k < q)=false:=decide_eq_false hkq;generalize dig (limbs x) k=dx at *;generalize carryA (dig (limbs x)) (dig (limbs y)) k=cy at *;clear hb hz hdy;go_wp2;go_roundw
    case rel=>exact ⟨k+1,hlt,by go_num,by rw [HCn.out];go_num,HBl2.out _ (by rw [HDn.out,Nat.add_zero];rfl),HBc.out.setCell (Nat.le_refl _) _⟩
    case measure=>simp [intOf];omega
  ·obtain rfl:k=p:=by omega
   have c2:=HBl.out.cell (x:=k) (by omega);have f2:=HBl.out.free k;have HBl2:=hid (fun (v:Nat)=>HBl.out.set k v);have hcb:carryA (dig (limbs x)) (dig (limbs y)) k < 4294967296:=by omega
   have hcm:((carryA (dig (limbs x)) (dig (limbs y)) k:Nat):Int) % 4294967296=((carryA (dig (limbs x)) (dig (limbs y)) k:Nat):Int):=by omega
   have HLt:Hid (∀ z,z < k+1->(if z=k then carryA (dig (limbs x)) (dig (limbs y)) k else redF (fun _=>0) 0 (digA (dig (limbs x)) (dig (limbs y))) k z) < 4294967296):=by
    intro z hz
    split
    ·exact hcb
    ·unfold redF;split
     ·exact digA_lt _ _ _
     ·show (0:Nat) < 4294967296;omega
   clear hb hqp
   go_wp2_with fail
   have hU:=(HBl2.out (carryA (dig (limbs x)) (dig (limbs y)) k)).u32s (fun i hi=>HLt.out i hi) (by omega);have HT:=nTrim_is (k+1) (by simp) hU (HSum.out.trans HCom.out);simp only [List.length_map,List.length_range] at HT
   refine HT.mono ?_
   rintro e w' ⟨⟨a6,c6,rfl,h8,h9⟩,rfl⟩;obtain ⟨H8,H9,HB9⟩:=hd3 h8 h9 (show Below w.heap.size w (wr.setCell ⟨w.heap.size,k,none⟩ (.int .u32 (carryA (dig (limbs x)) (dig (limbs y)) k:Int))) from HBc.out.setCell (Nat.le_refl _) _);clear HT hU h8 h9;go_wp2;go_ret;exact ⟨a6,c6,rfl,H8.out,H9.out,HB9.out⟩
theorem nAdd_lt {w:World} {a b:Option Addr} {l m:List Nat} {x y:Nat} (c d:Nat) (hc:l.length<=c) (hd:m.length<=d) (h:U32s w a l) (g:U32s w b m) (hx:lval l=x) (hy:lval m=y) (hr:l.length+m.length<=17592186044416) (hlt:(limbs x).length < (limbs y).length):
  Calls Tryz.prog 178 #[.slice a l.length c,.slice b m.length d] w (RetN w (x+y)):=by
 obtain ⟨HA,HB⟩:=hd2 (nTrim_is c hc h hx) (nTrim_is d hd g hy);have hle:(limbs x).length<=l.length:=by rw [<- hx];exact limbs_len_of_lval h.lim
 have hle2:(limbs y).length<=m.length:=by rw [<- hy];exact limbs_len_of_lval g.lim
 have hrr:(limbs x).length+(limbs y).length<=17592186044416:=by omega
 obtain ⟨i0,hi,hz3,hz4,hz5⟩:=info_parts Tryz.infoU32;have d1:decide ((limbs x).length < (limbs y).length)=true:=decide_eq_true (by omega);have HSum:=hid (add_laid (P:=limbs y) (Q:=limbs x) rfl (by omega));clear h g hx hy hc hd hr hle hle2
 go_enter Tryz.func178,Tryz.ntmps178
 go_wp2_with fail
 refine HA.out.mono ?_
 rintro e w' ⟨⟨a1,c1,rfl,hc1,ha1⟩,rfl⟩
 go_wp2_with fail
 refine HB.out.mono ?_
 rintro e w' ⟨⟨b1,d1',rfl,hd1,hb1⟩,rfl⟩;obtain ⟨HX,HY⟩:=hd2 hb1 ha1;have HCom:Hid (lval (limbs y)+lval (limbs x)=x+y):=by unfold Hid;rw [lval_limbs,lval_limbs];exact Nat.add_comm _ _
 clear HA HB ha1 hb1;obtain ⟨p,hp⟩:∃ p,p=(limbs y).length:=⟨_,rfl⟩
 obtain ⟨q,hq⟩:∃ q,q=(limbs x).length:=⟨_,rfl⟩
 obtain ⟨HP,HQ⟩:=hd2 hp hq;rw [<- hp] at hd1 hlt d1 hrr HSum ⊢;rw [<- hq] at hc1 hlt d1 hrr ⊢;clear hp hq;have hqp:q<=p:=by omega
 clear hlt
 go_wp2_with (at_make;refine wpList_make_full _ rfl _ _ 49 rfl w.heap.size 109 i0 (.int .u32 0) 1 Tryz.underlying49 hi hz3 hz4 _ _ _ _ (p+1) rfl rfl (by omega) (by omega) ?b2 ?b3 (Nat.le_refl _) ?_)
 case b2=>rw [hz5];omega
 case b3=>unfold maxLen;omega
 intro w1 hown hgrow;have HB0:Hid (Blk w1 w.heap.size (p+1) (fun _=>0) 109):=by
  refine Blk.of_own (base:=w.heap.size) ?_
  have e:(madeCells #[Value.int IntKind.u32 0] (p+1)).toList=(List.range (p+1)).map fun _=>Value.int .u32 ((0:Nat):Int):=by
   simp [toList_madeCells_one,List.map_const']
  rw [<- e];exact hown
 have hb1:Below w.heap.size w w1:=(Below.refl _ _).grown hgrow (Nat.le_refl _) (fun k h=>by cases h);clear hown hgrow hz3 hz4 hz5 hi d1;go_wp2
 go_loopw [6,26] (fun cv i wr=>∃ k:Nat,k<=p/\i=.int .i64 (k:Int)/\cv=.int .u64 (carryA (dig (limbs y)) (dig (limbs x)) k:Int)/\Hid (Blk wr w.heap.size (p+1) (redF (fun _=>0) 0 (digA (dig (limbs y)) (dig (limbs x))) k) 109)/\Below w.heap.size w wr) (fun _ i _=>p - (intOf i).toNat)
 case atStart=>exact ⟨0,Nat.zero_le _,rfl,rfl,by unfold Hid;rw [redF_zero];exact HB0,hb1⟩
 case round=>
  clear HB0 hb1;obtain ⟨k,hk,rfl,rfl,HBl,hb⟩:=hrel;have hcy:=carryA_le (n:=k) (dig_lt (lim_limbs y)) (dig_lt (lim_limbs x));have HBc:=hid hb
  by_cases hlt:k < p
  ·obtain ⟨p1,o1,rfl,hp1,q1⟩:=(HX.out.below hb).pick (k:=k) (by rw [<- HP.out];exact hlt);have hdx:=dig_lt (lim_limbs y) k;have hdy:=dig_lt (lim_limbs x) k;have c2:=HBl.out.cell (x:=k) (by omega);have f2:=HBl.out.free k;have HE:=hid (add_bd hdx hcy);have HCn:Hid (carryA (dig (limbs y)) (dig (limbs x)) (k+1)=(carryA (dig (limbs y)) (dig (limbs x)) k+dig (limbs y) k+dig (limbs x) k) / 4294967296):=rfl;have HDn:Hid (digA (dig (limbs y)) (dig (limbs x)) k=(carryA (dig (limbs y)) (dig (limbs x)) k+dig (limbs y) k+dig (limbs x) k) % 4294967296):=rfl;have HBl2:=hid (fun (v:Nat) (hv:v=digA (dig (limbs y)) (dig (limbs x)) k)=>(show Blk (wr.setCell ⟨w.heap.size,k,none⟩ (.int .u32 (v:Int))) w.heap.size (p+1) (redF (fun _=>0) 0 (digA (dig (limbs y)) (dig (limbs x))) (k+1)) 109 from by
    rw [redF_step,Nat.zero_add, <- hv];exact HBl.out.set k v))
   by_cases hkq:k < q
   ·obtain ⟨p2,o2,rfl,hp2,q2⟩:=(HY.out.below hb).pick (k:=k) (by rw [<- HQ.out];exact hkq);generalize dig (limbs y) k=dx at *;generalize dig (limbs x) k=dy at *;generalize carryA (dig (limbs y)) (dig (limbs x)) k=cy at *;clear hb;go_wp2;go_roundw
    case rel=>exact ⟨k+1,hlt,by go_num,by rw [HCn.out];go_num,HBl2.out _ (by rw [HDn.out];rfl),HBc.out.setCell (Nat.le_refl _) _⟩
    case measure=>simp [intOf];omega
   ·have hz:dig (limbs x) k=0:=dig_out (by rw [<- HQ.out];omega);rw [hz] at HCn HDn;have d2:decide (k < q)=false:=decide_eq_false hkq;generalize dig (limbs y) k=dx at *;generalize carryA (dig (limbs y)) (dig (limbs x)) k=cy at *;clear hb hz hdy;go_wp2;go_roundw
    case rel=>exact ⟨k+1,hlt,by go_num,by rw [HCn.out];go_num,HBl2.out _ (by rw [HDn.out,Nat.add_zero];rfl),HBc.out.setCell (Nat.le_refl _) _⟩
    case measure=>simp [intOf];omega
  ·obtain rfl:k=p:=by omega
   have c2:=HBl.out.cell (x:=k) (by omega);have f2:=HBl.out.free k;have HBl2:=hid (fun (v:Nat)=>HBl.out.set k v);have hcb:carryA (dig (limbs y)) (dig (limbs x)) k < 4294967296:=by omega
   have hcm:((carryA (dig (limbs y)) (dig (limbs x)) k:Nat):Int) % 4294967296=((carryA (dig (limbs y)) (dig (limbs x)) k:Nat):Int):=by omega
   have HLt:Hid (∀ z,z < k+1->(if z=k then carryA (dig (limbs y)) (dig (limbs x)) k else redF (fun _=>0) 0 (digA (dig (limbs y)) (dig (limbs x))) k z) < 4294967296):=by
    intro z hz
    split
    ·exact hcb
    ·unfold redF;split
     ·exact digA_lt _ _ _
     ·show (0:Nat) < 4294967296;omega
   clear hb hqp
   go_wp2_with fail
   have hU:=(HBl2.out (carryA (dig (limbs y)) (dig (limbs x)) k)).u32s (fun i hi=>HLt.out i hi) (by omega);have HT:=nTrim_is (k+1) (by simp) hU (HSum.out.trans HCom.out);simp only [List.length_map,List.length_range] at HT
   refine HT.mono ?_
   rintro e w' ⟨⟨a6,c6,rfl,h8,h9⟩,rfl⟩;obtain ⟨H8,H9,HB9⟩:=hd3 h8 h9 (show Below w.heap.size w (wr.setCell ⟨w.heap.size,k,none⟩ (.int .u32 (carryA (dig (limbs y)) (dig (limbs x)) k:Int))) from HBc.out.setCell (Nat.le_refl _) _);clear HT hU h8 h9;go_wp2;go_ret;exact ⟨a6,c6,rfl,H8.out,H9.out,HB9.out⟩
theorem nAdd {w:World} {a b:Option Addr} {l m:List Nat} {x y:Nat} (c d:Nat) (hc:l.length<=c) (hd:m.length<=d) (h:U32s w a l) (g:U32s w b m) (hx:lval l=x) (hy:lval m=y) (hr:l.length+m.length<=17592186044416):
  Calls Tryz.prog 178 #[.slice a l.length c,.slice b m.length d] w (RetN w (x+y)):=by
 by_cases hlt:(limbs x).length < (limbs y).length
 ·exact nAdd_lt c d hc hd h g hx hy hr hlt
 ·exact nAdd_ge c d hc hd h g hx hy hr (by omega)
theorem sbw_low {a p b:Nat} (ha:a < 4294967296) (hp:p<=1) (hb:b < 4294967296):
  IntKind.u64.wrap (IntKind.u64.wrap ((a:Int) - (p:Int)) - (b:Int)) % 4294967296=((a+4294967296 * (if a < p+b then 1 else 0) - (p+b):Nat):Int):=by
 rw [IntKind.wrap_u64,IntKind.wrap_u64]
 split <;> omega
theorem sbw_high {a p b:Nat} (ha:a < 4294967296) (hp:p<=1) (hb:b < 4294967296):
  IntKind.u64.wrap (IntKind.u64.wrap ((a:Int) - (p:Int)) - (b:Int)) / 9223372036854775808=((if a < p+b then 1 else 0:Nat):Int):=by
 rw [IntKind.wrap_u64,IntKind.wrap_u64]
 split <;> omega
theorem sbw_low1 {a p:Nat} (ha:a < 4294967296) (hp:p<=1):IntKind.u64.wrap ((a:Int) - (p:Int)) % 4294967296=((a+4294967296 * (if a < p+0 then 1 else 0) - (p+0):Nat):Int):=by
 rw [IntKind.wrap_u64]
 split <;> omega
theorem sbw_high1 {a p:Nat} (ha:a < 4294967296) (hp:p<=1):IntKind.u64.wrap ((a:Int) - (p:Int)) / 9223372036854775808=((if a < p+0 then 1 else 0:Nat):Int):=by
 rw [IntKind.wrap_u64]
 split <;> omega
theorem sub_laid {P Q:List Nat} {p:Nat} (hP:Lim P) (hQ:Lim Q) (hp:P.length=p) (hq:Q.length<=p) (h:lval Q<=lval P):
  lval ((List.range p).map fun z=>redF (fun _=>0) 0 (digS (dig P) (dig Q)) p z)=lval P - lval Q:=by
 have e2:valN (dig Q) p=lval Q:=by
  unfold lval;exact valN_more hq (fun i h1 _=>dig_out h1)
 have e1:valN (dig P) p=lval P:=by unfold lval;rw [hp]
 rw [lval_map,valN_congr (n:=p) (g:=digS (dig P) (dig Q)) (fun i hi=>by unfold redF;rw [if_pos (by omega),Nat.sub_zero])];rw [(sub_fits (dig_lt hP) (dig_lt hQ) (by rw [e1,e2];exact h)).1,e1,e2]
def RetNE (w:World) (v:Nat) (e:Ending) (w':World):Prop:=∃ a c,e=.returned (.tuple #[.slice a (limbs v).length c,.int .i64 0])/\(limbs v).length<=c/\U32s w' a (limbs v)/\Below w.heap.size w w'
theorem nSub {w:World} {a b:Option Addr} {l m:List Nat} {x y:Nat} (c d:Nat) (hc:l.length<=c) (hd:m.length<=d) (h:U32s w a l) (g:U32s w b m) (hx:lval l=x) (hy:lval m=y) (hr:l.length+m.length<=17592186044416) (hxy:y<=x):
  Calls Tryz.prog 179 #[.slice a l.length c,.slice b m.length d] w (RetNE w (x - y)):=by
 obtain ⟨HA,HB⟩:=hd2 (nTrim_is c hc h hx) (nTrim_is d hd g hy);have hle:(limbs x).length<=l.length:=by rw [<- hx];exact limbs_len_of_lval h.lim
 have hle2:(limbs y).length<=m.length:=by rw [<- hy];exact limbs_len_of_lval g.lim
 have hlt:(limbs y).length<=(limbs x).length:=limbs_len_mono hxy;have hrr:(limbs x).length+(limbs y).length<=17592186044416:=by omega
 obtain ⟨i0,hi,hz3,hz4,hz5⟩:=info_parts Tryz.infoU32;have HDf:=hid (sub_laid (P:=limbs x) (Q:=limbs y) (lim_limbs x) (lim_limbs y) rfl hlt (by rw [lval_limbs,lval_limbs];exact hxy));have hcmp:decide (cmpN x y < 0)=false:=by
  apply decide_eq_false
  unfold cmpN;rw [if_neg (by omega)]
  split <;> omega
 clear h g hx hy hc hd hr hle hle2 hxy
 go_enter Tryz.func179,Tryz.ntmps179
 go_wp2_with fail
 refine HA.out.mono ?_
 rintro e w' ⟨⟨a1,c1,rfl,hc1,ha1⟩,rfl⟩
 go_wp2_with fail
 refine HB.out.mono ?_
 rintro e w' ⟨⟨b1,d1',rfl,hd1,hb1⟩,rfl⟩;obtain ⟨HX,HY,HCm⟩:=hd3 ha1 hb1 (nCmp c1 d1' hc1 hd1 ha1 hb1 (lval_limbs x) (lval_limbs y));have HCom:Hid (lval (limbs x) - lval (limbs y)=x - y):=by unfold Hid;rw [lval_limbs,lval_limbs]
 clear HA HB ha1 hb1
 go_wp2_with fail
 refine HCm.out.mono ?_
 rintro e wq ⟨rfl,n0,hw0⟩;obtain ⟨HX0,HY0,HB0⟩:=hd3 (show U32s wq a1 (limbs x) from by subst hw0;exact HX.out.below (Below.drewN_refl _ _)) (show U32s wq b1 (limbs y) from by subst hw0;exact HY.out.below (Below.drewN_refl _ _)) (show Below w.heap.size w wq from by subst hw0;exact Below.drewN_refl _ _);clear HX HY HCm hw0;obtain ⟨p,hp⟩:∃ p,p=(limbs x).length:=⟨_,rfl⟩
 obtain ⟨q,hq⟩:∃ q,q=(limbs y).length:=⟨_,rfl⟩
 obtain ⟨HP,HQ⟩:=hd2 hp hq;rw [<- hp] at hc1 hlt hrr HDf ⊢;rw [<- hq] at hd1 hlt hrr ⊢;clear hp hq;have hqp:q<=p:=by omega
 clear hlt
 go_wp2_with (at_make;refine wpList_make_full _ rfl _ _ 49 rfl wq.heap.size 109 i0 (.int .u32 0) 1 Tryz.underlying49 hi hz3 hz4 _ _ _ _ p rfl rfl (by omega) (by omega) ?b2 ?b3 (Nat.le_refl _) ?_)
 case b2=>rw [hz5];omega
 case b3=>unfold maxLen;omega
 intro w1 hown hgrow;have HBk:Hid (Blk w1 wq.heap.size p (fun _=>0) 109):=by
  refine Blk.of_own (base:=wq.heap.size) ?_
  have e:(madeCells #[Value.int IntKind.u32 0] p).toList=(List.range p).map fun _=>Value.int .u32 ((0:Nat):Int):=by
   simp [toList_madeCells_one,List.map_const']
  rw [<- e];exact hown
 have hb1:Below wq.heap.size wq w1:=(Below.refl _ _).grown hgrow (Nat.le_refl _) (fun k h=>by cases h);obtain ⟨G,hG⟩:∃ G,G=wq.heap.size:=⟨_,rfl⟩
 obtain ⟨HGw,HX1⟩:=hd2 (show w.heap.size<=G from by rw [hG];exact HB0.out.size) (HX0.out);rw [<- hG] at HBk hb1 ⊢;have hBx:Hid (∀ wr,Below G wq wr->U32s wr a1 (limbs x)/\U32s wr b1 (limbs y)/\Below w.heap.size w wr):=fun wr hb=>by
  rw [hG] at hb;exact ⟨HX0.out.below hb,HY0.out.below hb,HB0.out.trans (hb.mono HB0.out.size)⟩
 clear hown hgrow hz3 hz4 hz5 hi hcmp HX0 HY0 HB0 HX1 hG;go_wp2
 go_loopw [7,8,9,10,24] (fun bv i0' d0' x0' i wr=>∃ k:Nat,k<=p/\i=.int .i64 (k:Int)/\bv=.int .u64 (borB (dig (limbs x)) (dig (limbs y)) k:Int)/\Hid (Blk wr G p (redF (fun _=>0) 0 (digS (dig (limbs x)) (dig (limbs y))) k) 109)/\Below G wq wr) (fun _ _ _ _ i _=>p - (intOf i).toNat)
 case atStart=>exact ⟨0,Nat.zero_le _,rfl,rfl,by unfold Hid;rw [redF_zero];exact HBk,hb1⟩
 case round=>
  clear HBk hb1;obtain ⟨k,hk,rfl,rfl,HBl,hb⟩:=hrel;have hcy:=borB_le (dig (limbs x)) (dig (limbs y)) k;have HBc:=hid hb;obtain ⟨hxr,hyr,hbr⟩:=hBx.out _ hb;obtain ⟨HXr,HYr,HBr⟩:=hd3 hxr hyr hbr;clear hxr hyr hbr
  by_cases hlt:k < p
  ·obtain ⟨p1,o1,rfl,hp1,q1⟩:=HXr.out.pick (k:=k) (by rw [<- HP.out];exact hlt);have hdx:=dig_lt (lim_limbs x) k;have hdy:=dig_lt (lim_limbs y) k;have c2:=HBl.out.cell (x:=k) (by omega);have f2:=HBl.out.free k;have HCn:Hid (borB (dig (limbs x)) (dig (limbs y)) (k+1)=(if dig (limbs x) k < borB (dig (limbs x)) (dig (limbs y)) k+dig (limbs y) k then 1 else 0)):=rfl;have HDn:Hid (digS (dig (limbs x)) (dig (limbs y)) k=dig (limbs x) k+4294967296 * (if dig (limbs x) k < borB (dig (limbs x)) (dig (limbs y)) k+dig (limbs y) k then 1 else 0) - (borB (dig (limbs x)) (dig (limbs y)) k+dig (limbs y) k)):=rfl;have HBl2:=hid (fun (v:Nat) (hv:v=digS (dig (limbs x)) (dig (limbs y)) k)=>(show Blk (wr.setCell ⟨G,k,none⟩ (.int .u32 (v:Int))) G p (redF (fun _=>0) 0 (digS (dig (limbs x)) (dig (limbs y))) (k+1)) 109 from by
    rw [redF_step,Nat.zero_add, <- hv];exact HBl.out.set k v))
   by_cases hkq:k < q
   ·obtain ⟨p2,o2,rfl,hp2,q2⟩:=HYr.out.pick (k:=k) (by rw [<- HQ.out];exact hkq);generalize digS (dig (limbs x)) (dig (limbs y)) k=dg at *;generalize dig (limbs x) k=dx at *;generalize dig (limbs y) k=dy at *;generalize borB (dig (limbs x)) (dig (limbs y)) k=cy at *;obtain ⟨HL,HH⟩:=hd2 (sbw_low hdx hcy hdy) (sbw_high hdx hcy hdy);clear hb;go_wp2;go_roundw
    case rel=>exact ⟨k+1,hlt,by go_num,by rw [HH.out,HCn.out],by rw [HL.out];exact HBl2.out _ HDn.out.symm,HBc.out.setCell (Nat.le_refl _) _⟩
    case measure=>simp [intOf];omega
   ·have hz:dig (limbs y) k=0:=dig_out (by rw [<- HQ.out];omega);rw [hz] at HCn HDn;have d2:decide (k < q)=false:=decide_eq_false hkq;generalize digS (dig (limbs x)) (dig (limbs y)) k=dg at *;generalize dig (limbs x) k=dx at *;generalize borB (dig (limbs x)) (dig (limbs y)) k=cy at *;obtain ⟨HL,HH⟩:=hd2 (sbw_low1 hdx hcy) (sbw_high1 hdx hcy);clear hb hz hdy;go_wp2;go_roundw
    case rel=>exact ⟨k+1,hlt,by go_num,by rw [HH.out,HCn.out],by rw [HL.out];exact HBl2.out _ HDn.out.symm,HBc.out.setCell (Nat.le_refl _) _⟩
    case measure=>simp [intOf];omega
  ·obtain rfl:p=k:=by omega
   have hU:=HBl.out.u32s (fun i hi=>by
    unfold redF
    split
    ·exact digS_lt (dig_lt (lim_limbs x) _) (dig_lt (lim_limbs y) _)
    ·exact (by decide:(0:Nat) < 4294967296)) (by omega)
   have HT:=nTrim_is p (by simp) hU (HDf.out.trans HCom.out);simp only [List.length_map,List.length_range] at HT;have HT2:=hid HT;clear hb hqp hU HT
   go_wp2_with fail
   refine HT2.out.mono ?_
   rintro e w' ⟨⟨a6,c6,rfl,h8,h9⟩,rfl⟩;obtain ⟨H8,H9⟩:=hd2 h8 h9;clear HT2 h8 h9;go_wp2
   go_ret2
   exact ⟨a6,c6,rfl,H8.out,H9.out,HBr.out⟩
end Go.Proofs.YtfgmmghmmfmdgaaGreat
