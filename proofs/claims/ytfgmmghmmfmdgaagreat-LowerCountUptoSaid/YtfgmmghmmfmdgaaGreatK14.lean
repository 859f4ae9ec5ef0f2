/-
  Contracts of the functions that the statement reaches: RefB, RefC, RefD.
-/
import Derived.Test.YtfgmmghmmfmdgaaGreatK12
import Derived.Test.YtfgmmghmmfmdgaaGreatK13
set_option linter.all false
set_option maxRecDepth 100000
set_option maxHeartbeats 3200000
namespace Go.Proofs.YtfgmmghmmfmdgaaGreat
open Go.RowKit
open Go.Lib (hid)
theorem U32s.src {w:World} {a:Option Addr} {l:List Nat} (h:U32s w a l):SrcOK w a l.length 1 (l.map fun d:Nat=>Value.int .u32 (d:Int)):=by
 refine ⟨by simp,?_,fun hp=>?_⟩
 ·intro u hu;obtain ⟨x,_,rfl⟩:=List.mem_map.1 hu;rfl
 ·rcases h.row with rfl | ⟨b,off,rfl,hb,hc⟩
  ·simp at hp
  ·refine ⟨b,off,rfl,hb,fun j u hj=>?_⟩
   rw [List.getElem?_map] at hj;obtain ⟨d,hd,rfl⟩:=Option.map_eq_some_iff.1 hj;exact hc j d hd
def Far (n:Nat) (a:Option Addr):Prop:=∀ p,a=some p->n<=p.block
theorem Far.mono {n m:Nat} {a:Option Addr} (h:Far n a) (hm:m<=n):Far m a:=fun p e=>Nat.le_trans hm (h p e)
theorem Far.none (n:Nat):Far n none:=fun _ e=>by cases e
theorem U32s.ownF {w:World} {base E:Nat} {v:Value} {l:List Nat} (h:w.ownsRow base E 1 v l.length (l.map fun d:Nat=>Value.int .u32 (d:Int))) (hl:Lim l) (hn:l.length<=9223372036854775807):
  ∃ a c,v=.slice a l.length c/\l.length<=c/\U32s w a l/\Far base a:=by
 obtain ⟨a,c,h1,h2,h3⟩:=U32s.own h hl hn
 refine ⟨a,c,h1,h2,h3,?_⟩
 rcases h.2 with ⟨rfl,hz⟩ | ⟨g,cap,cur,rfl,hb,_⟩
 ·injection h1 with e1
  subst e1;exact Far.none _
 ·injection h1 with e1
  subst e1;intro p e;cases e;exact hb
def RetF (w:World) (v:Nat) (e:Ending) (w':World):Prop:=∃ a c,e=.returned (.slice a (limbs v).length c)/\(limbs v).length<=c/\U32s w' a (limbs v)/\Below w.heap.size w w'/\Far w.heap.size a
theorem hp1' (w:World) (o:Obj):(w.alloc o).heap[w.heap.size]? =some o:=by
 show (w.heap.push o)[w.heap.size]? =_
 rw [Array.getElem?_push,if_pos rfl]
theorem r1Make {w:World} {a:Option Addr} {l:List Nat} (c:Nat) (hc:l.length<=c) (h:U32s w a l) (hr:l.length * 4<=140737488355328):
  Calls Tryz.prog 107 #[.slice a l.length c] w (RetF w (lval l)):=by
 have hlen:=h.len;obtain ⟨HU,HL,HCap⟩:=hd3 h h.lim hc;clear h
 go_enter Tryz.func107,Tryz.ntmps107
 go_wp2
 go_loop [3] (fun i=>∃ n:Nat,n<=l.length/\i=.int .i64 n/\Hid (∀ i,n<=i->i < l.length->dig l i=0)) (fun i=>(intOf i).toNat)
 case atStart=>exact ⟨l.length,Nat.le_refl _,rfl,fun i h1 h2=>by omega⟩
 case round=>
  obtain ⟨n,hn,rfl,hz⟩:=hrel
  by_cases hgo:∃ m,n=m+1/\dig l m=0
  ·obtain ⟨m,rfl,hd⟩:=hgo;obtain ⟨b,off,rfl,hb,hcell⟩:=HU.out.pick (show m < l.length by omega);have e1:((m+1:Nat):Int) - 1=(m:Int):=by omega
   rw [hd] at hcell;have HZ2:Hid (∀ i,m<=i->i < l.length->dig l i=0):=fun i h1 h2=>by
    by_cases hi:i=m
    ·rw [hi];exact hd
    ·exact hz.out i (by omega) h2
   clear hd;go_wp2;go_round
   case rel=>exact ⟨m,by omega,by go_num,HZ2⟩
   case measure=>simp [intOf]
  ·have hnl:n=0 ∨ dig l (n - 1) ≠ 0:=by
    rcases Nat.eq_zero_or_pos n with h0 | h0
    ·exact .inl h0
    ·exact .inr fun e=>hgo ⟨n - 1,by omega,e⟩
   obtain ⟨HT,HS⟩:=hd2 (take_limbs HL.out hn hz.out hnl) ((HU.out.take n).src);have hln:(l.take n).length=n:=by simp;omega
   have HLn:=hid hln;clear hgo hz hln
   cases n with
   | zero=>
    go_wp2_with (at_builtin;refine wpList_append_src rfl (.tmp 18) (.tmp 21) 49 48 rfl w.heap.size 109 (.int .u32 0) 1 4 Tryz.underlying49 Tryz.underlying48 Tryz.infoU32 rfl (by omega) (.slice (some ⟨w.heap.size,0,none⟩) 0 0) 0 [] rfl (own_empty (hp1' _ _) (Nat.le_refl _)) a 0 _ _ rfl ((by have h:=HS.out.below ((Below.refl w.heap.size w).alloc (Nat.le_refl _) (.cells #[] 109));rw [HLn.out] at h;exact h)) (by omega) (by unfold maxLen;omega) (by simp) ?_;intro v' w' hown hg hn2)
    have hlv:(limbs (lval l)).length=0:=by rw [<- HT.out];exact HLn.out
    have hown':w'.ownsRow w.heap.size 109 1 v' (limbs (lval l)).length ((limbs (lval l)).map fun d:Nat=>Value.int .u32 (d:Int)):=by
     rw [hlv, <- HT.out]
     simpa using hown
    obtain ⟨a',c',rfl,h1,h2,h3⟩:=U32s.ownF hown' (lim_limbs _) (by omega);have hbl:=((Below.refl _ w).alloc (Nat.le_refl _) _).grown hg (by simp) (by intro k hk;simp [Value.ownBlock] at hk;omega);have HBl:=hid hbl;clear hown hown' hg hn2 hbl hlv;go_ret;exact ⟨a',c',rfl,h1,h2,HBl.out,h3⟩
   | succ m=>
    obtain ⟨b,off,rfl,hb,hcell⟩:=HU.out.pick (show m < l.length by omega);have hd:dig l m ≠ 0:=by rcases hnl with h | h;exact absurd h (by omega);exact h
    have hne:((dig l m:Int)==0)=false:=by rw [beq_eq_false_iff_ne];omega
    have e1:((m+1:Nat):Int) - 1=(m:Int):=by omega
    go_wp2_with (at_builtin;refine wpList_append_src rfl (.tmp 18) (.tmp 21) 49 48 rfl w.heap.size 109 (.int .u32 0) 1 4 Tryz.underlying49 Tryz.underlying48 Tryz.infoU32 rfl (by omega) (.slice (some ⟨w.heap.size,0,none⟩) 0 0) 0 [] rfl (own_empty (hp1' _ _) (Nat.le_refl _)) _ (m+1) _ _ rfl ((by have h:=HS.out.below ((Below.refl w.heap.size w).alloc (Nat.le_refl _) (.cells #[] 109));rw [HLn.out] at h;exact h)) (by omega) (by unfold maxLen;omega) (by simp) ?_;intro v' w' hown hg hn2)
    have hlv:(limbs (lval l)).length=m+1:=by rw [<- HT.out];exact HLn.out
    have hown':w'.ownsRow w.heap.size 109 1 v' (limbs (lval l)).length ((limbs (lval l)).map fun d:Nat=>Value.int .u32 (d:Int)):=by
     rw [hlv, <- HT.out]
     simpa using hown
    obtain ⟨a',c',rfl,h1,h2,h3⟩:=U32s.ownF hown' (lim_limbs _) (by omega);have hbl:=((Below.refl _ w).alloc (Nat.le_refl _) _).grown hg (by simp) (by intro k hk;simp [Value.ownBlock] at hk;omega);have HBl:=hid hbl;clear hown hown' hg hn2 hbl hlv;go_ret;exact ⟨a',c',rfl,h1,h2,HBl.out,h3⟩
theorem r1Of (x:Nat) (hx:x < 18446744073709551616) (w:World):Calls Tryz.prog 77 #[.int .u64 (x:Int)] w (RetF w x):=by
 go_enter Tryz.func77,Tryz.ntmps77
 go_wp2_with fail
 have hU:U32s (w.alloc (.cells #[.int .u32 ((x:Int) % 4294967296),.int .u32 ((x:Int) / 4294967296)] 109)) (some ⟨w.heap.size,0,none⟩) [x % 4294967296,x / 4294967296]:=by
  refine ⟨?_,by simp,.inr ⟨w.heap.size,0,rfl,by simp,fun j d hj=>?_⟩⟩
  ·intro d hd;simp at hd;omega
  ·rw [World.cell?_alloc_at _ _ _ _ rfl]
   match j,hj with
   | 0,hj=>simp at hj;subst hj;simp
   | 1,hj=>simp at hj;subst hj;simp
 have hv:lval [x % 4294967296,x / 4294967296]=x:=by rw [lval_cons,lval_cons,lval_nil];omega
 have hc:=r1Make (l:=[x % 4294967296,x / 4294967296]) 2 (Nat.le_refl _) hU (by simp);rw [hv] at hc
 refine hc.mono ?_
 rintro e w' ⟨a',c',rfl,h1,h2,h3,h4⟩;have HB:=hid (((Below.refl _ w).alloc (Nat.le_refl _) (.cells #[.int .u32 ((x:Int) % 4294967296),.int .u32 ((x:Int) / 4294967296)] 109)).trans (h3.mono (by simp)));clear hU hv hc h3;go_wp2;go_ret;exact ⟨a',c',rfl,h1,h2,HB.out,h4.mono (by simp)⟩
def sumD (l m:List Nat) (k:Nat):List Nat:=(List.range k).map (digA (dig l) (dig m))
theorem sumD_succ (l m:List Nat) (k:Nat):sumD l m (k+1)=sumD l m k++[digA (dig l) (dig m) k]:=by
 unfold sumD;rw [List.range_succ,List.map_append];rfl
theorem sumD_len (l m:List Nat) (k:Nat):(sumD l m k).length=k:=by simp [sumD]
def u32v (d:Nat):Value:=Value.int .u32 (d:Int)
theorem sum_val {l m:List Nat} {N:Nat} (h1:l.length<=N) (h2:m.length<=N):lval (sumD l m N++[carryA (dig l) (dig m) N])=lval l+lval m:=by
 have e:lval (sumD l m N++[carryA (dig l) (dig m) N])=valN (digA (dig l) (dig m)) N+carryA (dig l) (dig m) N * 4294967296^N:=by
  unfold lval;rw [List.length_append,sumD_len,List.length_singleton];show valN _ N+dig (sumD l m N++[carryA (dig l) (dig m) N]) N * 4294967296^N=_
  congr 1
  ·apply valN_congr
   intro i hi;unfold dig;rw [List.getD_eq_getElem?_getD,List.getElem?_append_left (by rw [sumD_len];exact hi)];unfold sumD;rw [List.getElem?_map,List.getElem?_range hi];rfl
  ·congr 1
   unfold dig;rw [List.getD_eq_getElem?_getD,List.getElem?_append_right (by rw [sumD_len];exact Nat.le_refl _),sumD_len,Nat.sub_self];rfl
 rw [e,addV,lval_ext h1,lval_ext h2]
theorem r1Add {w:World} {a b:Option Addr} {l m:List Nat} {x y:Nat} (c d:Nat) (h:U32s w a l) (g:U32s w b m) (hx:lval l=x) (hy:lval m=y) (r1:l.length<=4194304) (r2:m.length<=4194304):
  Calls Tryz.prog 144 #[.slice a l.length c,.slice b m.length d] w (RetF w (x+y)):=by
 obtain ⟨HL,HM,HA,HB,HX,HY⟩:=hd6 h.lim g.lim h g hx hy;clear h g hx hy;obtain ⟨N,hN⟩:∃ N:Nat,N=max l.length m.length:=⟨_,rfl⟩
 have HN:Hid (∀ k:Nat,k < l.length ∨ k < m.length ↔ k < N):=fun k=>by omega
 have hN1:l.length<=N:=by omega
 have hN2:m.length<=N:=by omega
 have hN3:N<=4194304:=by omega
 clear hN
 go_enter Tryz.func144,Tryz.ntmps144
 go_wp2
 go_loopw [5,6,7] (fun o cy i wr=>∃ k:Nat,k<=N/\i=.int .i64 (k:Int)/\cy=.int .u64 (carryA (dig l) (dig m) k:Int)/\Hid (wr.ownsRow w.heap.size 109 1 o k ((sumD l m k).map u32v))/\Hid (Below w.heap.size w wr)) (fun _ _ i _=>N - (intOf i).toNat)
 case atStart=>exact ⟨0,Nat.zero_le _,rfl,rfl,World.ownsRow_nil _ _ _ _,Below.refl _ _⟩
 case round=>
  obtain ⟨k,hk,rfl,rfl,hO,hBw⟩:=hrel;have hc1:=carryA_le (n:=k) (dig_lt HL.out) (dig_lt HM.out)
  by_cases hlt:k < N
  ·have b1:=dig_lt HL.out k;have b2:=dig_lt HM.out k;obtain ⟨C1,C2⟩:=hd2 (fun (wc:World) (hb:Below w.heap.size w wc)=>r1Limb c k (by omega) (HA.out.below hb)) (fun (wc:World) (hb:Below w.heap.size w wc)=>r1Limb d k (by omega) (HB.out.below hb));have HSc:Hid ((sumD l m (k+1)).map u32v=(sumD l m k).map u32v++[.int .u32 (((carryA (dig l) (dig m) k+(dig l k+dig m k)) % 4294967296:Nat):Int)]):=by
    unfold Hid;rw [sumD_succ,List.map_append, <- Nat.add_assoc];rfl
   have HCn:Hid (carryA (dig l) (dig m) (k+1)=(carryA (dig l) (dig m) k+(dig l k+dig m k)) / 4294967296):=by unfold Hid;rw [<- Nat.add_assoc];rfl
   generalize carryA (dig l) (dig m) k=cy at *;generalize dig l k=f at *;generalize dig m k=e at *;have hor:=(HN.out k).2 hlt
   by_cases hkl:k < l.length
   ·clear hor
    go_wp2_with (first | (go_at_call 147;first | ((with_reducible refine (C1.out _ hBw.out).mono ?_);rintro e' w' ⟨rfl,rfl⟩) | ((with_reducible refine (C2.out _ hBw.out).mono ?_);rintro e' w' ⟨rfl,rfl⟩)) | (at_builtin;refine wpList_app1 rfl (.tmp 31) (.tmp 34) 48 rfl w.heap.size 109 (.int .u32 0) 4 Tryz.underlying48 Tryz.infoU32 rfl _ k _ rfl hO.out _ rfl rfl (by omega) (by unfold maxLen;omega) hBw.out.size ?_;intro v' w' hown hg hn))
    go_roundw
    case rel=>
     refine ⟨k+1,hlt,by go_num,by rw [HCn.out];go_num,?_,hBw.out.grown hg hBw.out.size (fun k hk=>(hO.out.lt k hk).1)⟩
     unfold Hid;rw [HSc.out]
     simpa using hown
    case measure=>simp [intOf];omega
   ·have hkm:=hor.resolve_left hkl;clear hor
    go_wp2_with (first | (go_at_call 147;first | ((with_reducible refine (C1.out _ hBw.out).mono ?_);rintro e' w' ⟨rfl,rfl⟩) | ((with_reducible refine (C2.out _ hBw.out).mono ?_);rintro e' w' ⟨rfl,rfl⟩)) | (at_builtin;refine wpList_app1 rfl (.tmp 31) (.tmp 34) 48 rfl w.heap.size 109 (.int .u32 0) 4 Tryz.underlying48 Tryz.infoU32 rfl _ k _ rfl hO.out _ rfl rfl (by omega) (by unfold maxLen;omega) hBw.out.size ?_;intro v' w' hown hg hn))
    go_roundw
    case rel=>
     refine ⟨k+1,hlt,by go_num,by rw [HCn.out];go_num,?_,hBw.out.grown hg hBw.out.size (fun k hk=>(hO.out.lt k hk).1)⟩
     unfold Hid;rw [HSc.out]
     simpa using hown
    case measure=>simp [intOf];omega
  ·obtain rfl:k=N:=by omega
   have hnn:=fun q=>hlt ((HN.out k).1 q)
   have hkl:¬ k < l.length:=fun q=>hnn (.inl q)
   have hkm:¬ k < m.length:=fun q=>hnn (.inr q)
   have HV:=hid (sum_val hN1 hN2);have hLim:Hid (Lim (sumD l m k++[carryA (dig l) (dig m) k])):=by
    intro dd hd
    rcases List.mem_append.1 hd with h | h
    ·unfold sumD at h;obtain ⟨i,_,rfl⟩:=List.mem_map.1 h;exact digA_lt _ _ _
    ·have:=List.mem_singleton.1 h;omega
   have HLn:Hid ((sumD l m k++[carryA (dig l) (dig m) k]).length=k+1):=by unfold Hid;simp [sumD_len]
   have HMp:Hid ((sumD l m k++[carryA (dig l) (dig m) k]).map u32v=(sumD l m k).map u32v++[.int .u32 (carryA (dig l) (dig m) k:Int)]):=by unfold Hid;rw [List.map_append];rfl
   generalize sumD l m k++[carryA (dig l) (dig m) k]=R at *;generalize carryA (dig l) (dig m) k=cy at *;clear hnn;have hcm:((cy:Int)) % 4294967296=(cy:Int):=by omega
   go_wp2_with (at_builtin;refine wpList_app1 rfl (.tmp 38) (.tmp 41) 48 rfl w.heap.size 109 (.int .u32 0) 4 Tryz.underlying48 Tryz.infoU32 rfl _ k _ rfl hO.out _ rfl rfl (by omega) (by unfold maxLen;omega) hBw.out.size ?_;intro v' w' hown hg hn)
   have hown':w'.ownsRow w.heap.size 109 1 v' R.length (R.map fun d:Nat=>Value.int .u32 (d:Int)):=by
    rw [HLn.out];have h:(R.map fun d:Nat=>Value.int .u32 (d:Int))=(sumD l m k).map u32v++[.int .u32 (cy:Int)]:=HMp.out;rw [h];exact hown
   obtain ⟨a',c',rfl,h1,h2⟩:=U32s.own hown' hLim.out (by rw [HLn.out];omega);have HBl:=hid (hBw.out.grown hg hBw.out.size (fun k hk=>(hO.out.lt k hk).1));have hcall:=r1Make c' h1 h2 (by rw [HLn.out];omega);rw [HV.out,HX.out,HY.out] at hcall;have HC:=hid hcall;clear hown hown' hg hn hcall h1 h2 hcm hO hBw
   go_wp2_with fail
   refine HC.out.mono ?_
   rintro e w3 ⟨a3,c3,rfl,h1,h2,h3,h4⟩;have HB3:=htr HBl h3;clear h3;go_wp2;go_ret;exact ⟨a3,c3,rfl,h1,h2,HB3.out,h4.mono HBl.out.size⟩
def subD (l m:List Nat) (k:Nat):List Nat:=(List.range k).map (digS (dig l) (dig m))
theorem subD_succ (l m:List Nat) (k:Nat):subD l m (k+1)=subD l m k++[digS (dig l) (dig m) k]:=by
 unfold subD;rw [List.range_succ,List.map_append];rfl
theorem subD_len (l m:List Nat) (k:Nat):(subD l m k).length=k:=by simp [subD]
theorem subD_lim {l m:List Nat} (hl:Lim l) (hm:Lim m) (k:Nat):Lim (subD l m k):=by
 intro d hd;unfold subD at hd;obtain ⟨i,_,rfl⟩:=List.mem_map.1 hd;exact digS_lt (dig_lt hl i) (dig_lt hm i)
theorem subD_lval (l m:List Nat) (k:Nat):lval (subD l m k)=valN (digS (dig l) (dig m)) k:=by
 unfold lval;rw [subD_len]
 apply valN_congr
 intro i hi;unfold dig subD;rw [List.getD_eq_getElem?_getD,List.getElem?_map,List.getElem?_range hi];rfl
theorem lval_low {m:List Nat} {n:Nat} (h:lval m < 4294967296^n):valN (dig m) n=lval m:=by
 rcases Nat.lt_or_ge n m.length with hlt | hge
 ·have e:=valN_split (dig m) n (m.length - n);rw [show n+(m.length - n)=m.length by omega] at e;have e2:lval m=valN (dig m) n+valN (fun i=>dig m (n+i)) (m.length - n) * 4294967296^n:=e
  rcases Nat.eq_zero_or_pos (valN (fun i=>dig m (n+i)) (m.length - n)) with h0 | h0
  ·rw [h0,Nat.zero_mul,Nat.add_zero] at e2;exact e2.symm
  ·have h1:=Nat.le_mul_of_pos_left (4294967296^n) h0;omega
 ·exact lval_ext hge
theorem sub_val {l m:List Nat} (hl:Lim l) (hm:Lim m) (h:lval m<=lval l):lval (subD l m l.length)=lval l - lval m:=by
 have h1:lval l < 4294967296^l.length:=valN_lt (fun i _=>dig_lt hl i);have h2:=lval_low (m:=m) (n:=l.length) (by omega);rw [subD_lval];have h3:=(sub_fits (f:=dig l) (g:=dig m) (n:=l.length) (dig_lt hl) (dig_lt hm) (by rw [h2];exact h)).1;rw [h3,h2];rfl
def SubPost (w:World) (x y:Nat) (e:Ending) (w':World):Prop:=
 (x < y/\e=.returned (.tuple #[.slice none 0 0,.int .i64 2])/\Below w.heap.size w w') ∨
 (y<=x/\Below w.heap.size w w'/\∃ a c,e=.returned (.tuple #[.slice a (limbs (x - y)).length c,.int .i64 0])/\(limbs (x - y)).length<=c/\U32s w' a (limbs (x - y))/\Far w.heap.size a)
theorem r1Sub {w:World} {a b:Option Addr} {l m:List Nat} {x y:Nat} (c d:Nat) (h:U32s w a l) (g:U32s w b m) (hx:lval l=x) (hy:lval m=y) (r1:l.length<=4194304) (r2:m.length<=4194304):
  Calls Tryz.prog 146 #[.slice a l.length c,.slice b m.length d] w (SubPost w x y):=by
 obtain ⟨HL,HM,HA,HB,HCm⟩:=hd5 h.lim g.lim h g (r1Cmp c d h g);rw [hx,hy] at HCm;obtain ⟨HX,HY⟩:=hd2 hx hy;clear h g hx hy
 go_enter Tryz.func146,Tryz.ntmps146
 go_wp2_with fail
 refine HCm.out.mono ?_
 rintro e w1 ⟨rfl,rfl⟩
 by_cases hxy:x < y
 ·have hc:cmpN x y= -1:=cmpN_lt hxy;go_wp2
  go_ret2
  exact .inl ⟨hxy,rfl,Below.refl _ _⟩
 ·have hyx:y<=x:=by omega
  have hc:decide (cmpN x y < 0)=false:=by
   apply decide_eq_false
   unfold cmpN;rw [if_neg hxy]
   split <;> omega
  go_wp2;clear hc
  go_loopw [6,7,8] (fun o by' i wr=>∃ k:Nat,k<=l.length/\i=.int .i64 (k:Int)/\by'=.int .u64 (borB (dig l) (dig m) k:Int)/\Hid (wr.ownsRow w.heap.size 109 1 o k ((subD l m k).map u32v))/\Hid (Below w.heap.size w wr)) (fun _ _ i _=>l.length - (intOf i).toNat)
  case atStart=>exact ⟨0,Nat.zero_le _,rfl,rfl,World.ownsRow_nil _ _ _ _,Below.refl _ _⟩
  case round=>
   obtain ⟨k,hk,rfl,rfl,hO,hBw⟩:=hrel;have hc1:=borB_le (dig l) (dig m) k
   by_cases hlt:k < l.length
   ·have b1:=dig_lt HL.out k;have b2:=dig_lt HM.out k;obtain ⟨C1,C2⟩:=hd2 (fun (wc:World) (hb:Below w.heap.size w wc)=>r1Limb c k (by omega) (HA.out.below hb)) (fun (wc:World) (hb:Below w.heap.size w wc)=>r1Limb d k (by omega) (HB.out.below hb));have HSc:Hid ((subD l m (k+1)).map u32v=(subD l m k).map u32v++[.int .u32 ((digS (dig l) (dig m) k:Nat):Int)]):=by
     unfold Hid;rw [subD_succ,List.map_append];rfl
    have HCn:Hid (borB (dig l) (dig m) (k+1)=if dig l k < borB (dig l) (dig m) k+dig m k then 1 else 0):=rfl;have HDg:Hid (digS (dig l) (dig m) k=dig l k+4294967296 * (if dig l k < borB (dig l) (dig m) k+dig m k then 1 else 0) - (borB (dig l) (dig m) k+dig m k)):=rfl;generalize borB (dig l) (dig m) k=cy at *;generalize digS (dig l) (dig m) k=dg at *;generalize dig l k=f at *;generalize dig m k=e at *
    by_cases hfe:f < e+cy
    ·have HD2:Hid (dg=f+4294967296 - (e+cy)):=by unfold Hid;rw [HDg.out,if_pos (by omega)];omega
     have HC2:Hid (borB (dig l) (dig m) (k+1)=1):=by unfold Hid;rw [HCn.out,if_pos (by omega)]
     clear HCn HDg
     go_wp2_with (first | (go_at_call 147;first | ((with_reducible refine (C1.out _ hBw.out).mono ?_);rintro e' w' ⟨rfl,rfl⟩) | ((with_reducible refine (C2.out _ hBw.out).mono ?_);rintro e' w' ⟨rfl,rfl⟩)) | (at_builtin;refine wpList_app1 rfl (.tmp 36) (.tmp 41) 48 rfl w.heap.size 109 (.int .u32 0) 4 Tryz.underlying48 Tryz.infoU32 rfl _ k _ rfl hO.out _ rfl rfl (by omega) (by unfold maxLen;omega) hBw.out.size ?_;intro v' w' hown hg hn))
     go_roundw
     case rel=>
      refine ⟨k+1,hlt,by go_num,by rw [HC2.out];rfl,?_,hBw.out.grown hg hBw.out.size (fun k hk=>(hO.out.lt k hk).1)⟩
      unfold Hid;rw [HSc.out];have hv:((dg:Nat):Int)=(f:Int)+4294967296 - ((e:Int)+(cy:Int)):=by have:=HD2.out;omega
      rw [hv];exact hown
     case measure=>simp [intOf];omega
    ·have HD2:Hid (dg=f - (e+cy)):=by unfold Hid;rw [HDg.out,if_neg (by omega)];omega
     have HC2:Hid (borB (dig l) (dig m) (k+1)=0):=by unfold Hid;rw [HCn.out,if_neg (by omega)]
     clear HCn HDg
     go_wp2_with (first | (go_at_call 147;first | ((with_reducible refine (C1.out _ hBw.out).mono ?_);rintro e' w' ⟨rfl,rfl⟩) | ((with_reducible refine (C2.out _ hBw.out).mono ?_);rintro e' w' ⟨rfl,rfl⟩)) | (at_builtin;refine wpList_app1 rfl (.tmp 36) (.tmp 41) 48 rfl w.heap.size 109 (.int .u32 0) 4 Tryz.underlying48 Tryz.infoU32 rfl _ k _ rfl hO.out _ rfl rfl (by omega) (by unfold maxLen;omega) hBw.out.size ?_;intro v' w' hown hg hn))
     go_roundw
     case rel=>
      refine ⟨k+1,hlt,by go_num,by rw [HC2.out];rfl,?_,hBw.out.grown hg hBw.out.size (fun k hk=>(hO.out.lt k hk).1)⟩
      unfold Hid;rw [HSc.out];have hv:((dg:Nat):Int)=(f:Int) - ((e:Int)+(cy:Int)):=by have:=HD2.out;omega
      rw [hv];exact hown
     case measure=>simp [intOf];omega
   ·obtain rfl:k=l.length:=by omega
    have hV:lval (subD l m l.length)=x - y:=by
     rw [sub_val HL.out HM.out (by rw [HX.out,HY.out];exact hyx),HX.out,HY.out]
    have hLn:=subD_len l m l.length;have hLi:=subD_lim HL.out HM.out l.length;have hO2:wr.ownsRow w.heap.size 109 1 u6 (subD l m l.length).length ((subD l m l.length).map fun d:Nat=>Value.int .u32 (d:Int)):=by
     rw [hLn];exact hO.out
    obtain ⟨a',c',rfl,h1,h2⟩:=U32s.own hO2 hLi (by omega);have hcall:=r1Make c' h1 h2 (by omega);rw [hV] at hcall;have HC:=hid hcall;rw [hLn] at HC ⊢;clear hO hO2 hcall h1 h2 hV hLn hLi
    go_wp2_with fail
    refine HC.out.mono ?_
    rintro e w3 ⟨a3,c3,rfl,h1,h2,h3,h4⟩;have HB3:=htr hBw h3;clear h3;go_wp2
    go_ret2
    exact .inr ⟨hyx,HB3.out,a3,c3,rfl,h1,h2,h4.mono hBw.out.size⟩
end Go.Proofs.YtfgmmghmmfmdgaaGreat
