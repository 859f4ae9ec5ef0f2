/-
  Contracts of the functions that the statement reaches: TenB, TenF, TenG, TenI, TenH, TenC, TenL, TenM, WinLaw, SlotsF, SlotsG.
-/
import Derived.Test.YtfgmmghmmfmdgaaGreatK13
set_option linter.all false
set_option maxRecDepth 100000
set_option maxHeartbeats 3200000
namespace Go.Proofs.YtfgmmghmmfmdgaaGreat
open Go.RowKit
open Go.Lib (hid)
theorem indexFrom_no {d c s:Int} {r q:List Int} (h:c < 0 ∨ d<=c):indexFrom (d::r) (c::q) s=(0,2):=by simp [indexFrom,h]
theorem indexFrom_yes {d c s:Int} {r q:List Int} (h1:¬ c < 0) (h2:¬ d<=c):indexFrom (d::r) (c::q) s=indexFrom r q (s * d+c):=by simp [indexFrom,h1,h2]
theorem indexL_bad {l m:List Int} (h:validL l=false):indexL l m=(0,1):=by simp [indexL,h]
theorem indexL_len {l m:List Int} (h:m.length ≠ l.length):indexL l m=(0,1):=by simp [indexL,h]
theorem indexL_in {l m:List Int} (h:validL l=true) (hl:m.length=l.length):indexFrom (l.drop 0) (m.drop 0) 0=indexL l m:=by simp [indexL,h,hl]
theorem rIndex {w:World} {F G:Nat->Prop} {a b:Option Addr} {l m:List Int} (ca cb:Nat) (h:Ints w F a l) (g:Ints w G b m):
  Calls Tryz.prog 98 #[.slice a l.length ca,.slice b m.length cb] w fun e w'=>e=.returned (.tuple #[.int .i64 (indexL l m).1,.int .i64 (indexL l m).2])/\∃ n,w'=w.drewN n:=by
 have hl1:=h.len;have hl2:=g.len;have hV:=r11Valid ca h;cases hv:validL l
 ·rw [hv] at hV;obtain ⟨HS,HV⟩:=hd2 (indexL_bad (m:=m) hv) hV;clear hv hV
  go_enter Tryz.func98,Tryz.ntmps98
  go_wp2_with (go_at_call 50;refine HV.out.mono ?_;rintro e w' ⟨rfl,rfl⟩)
  go_ret2
  exact ⟨ret_ie HS.out.symm,0,rfl⟩
 rw [hv] at hV
 by_cases hl:m.length=l.length
 ·have hne:((m.length:Int) != (l.length:Int))=false:=by simp [hl]
  obtain ⟨HS,HV,HF,HL⟩:=hd4 (indexL_in hv hl) hV (validL_from hv) hl;clear hv hV hl
  go_enter Tryz.func98,Tryz.ntmps98
  go_wp2_with (go_at_call 50;refine HV.out.mono ?_;rintro e w' ⟨rfl,rfl⟩)
  go_loopw [6,7] (fun z i wr=>∃ k q:Nat,∃ n s:Int,k<=l.length/\1<=n/\n<=16384/\0<=s/\s < n/\i=.int .i64 k/\z=.int .i64 s/\wr=w.drewN q/\Hid (validFrom (l.drop k) n=true)/\Hid (indexFrom (l.drop k) (m.drop k) s=indexL l m))
   (fun _ i _=>l.length - (intOf i).toNat)
  case atStart=>exact ⟨0,0,1,0,by omega,by omega,by omega,by omega,by omega,rfl,rfl,rfl,HF,HS⟩
  case round=>
   obtain ⟨k,q,n,s,hk,hn1,hn2,hs1,hs2,rfl,rfl,rfl,hv,hrel⟩:=hrel
   by_cases hlt:k < l.length
   ·obtain ⟨b1,o1,d,rfl,hd,_,hld,_,_⟩:=h.pick hlt;obtain ⟨b2,o2,c,rfl,hc,_,hlc,_,_⟩:=g.pick (show k < m.length from HL.out ▸ hlt);have hlt2:k < m.length:=HL.out ▸ hlt;obtain ⟨d1,d2,d3,d4,d5⟩:=validFrom_step hld hn1 hv.out;obtain ⟨HD,HC,H5⟩:=hd3 hld hlc d5;clear hld hlc h g d5
    by_cases c1:c < 0
    ·go_wp2
     go_quiet (fail)
     go_wp2
     go_ret2
     exact ⟨ret_ie (by rw [<- hrel.out,HD.out,HC.out,indexFrom_no (.inl c1)]),drew2 _ _ _⟩
    have c1':decide (c < 0)=false:=by simpa using c1
    by_cases c2:d<=c
    ·go_wp2
     go_quiet (fail)
     go_wp2
     go_ret2
     exact ⟨ret_ie (by rw [<- hrel.out,HD.out,HC.out,indexFrom_no (.inr c2)]),drew2 _ _ _⟩
    have hb:=idx_bd hs1 hs2 d1 (by omega:0<=c) (by omega);go_wp2
    go_quiet (fail)
    go_wp2
    go_quiet (fail)
    go_wp2;go_roundw
    case rel=>exact ⟨k+1,_,n * d,s * d+c,by omega,by omega,by omega,by omega,by omega,by go_num,rfl,rfl,H5,by rw [<- hrel.out,HD.out,HC.out,indexFrom_yes (by omega) (by omega)];rfl⟩
    case measure=>simp [intOf];omega
   ·go_wp2
    go_ret2
    exact ⟨ret_ie (by rw [<- hrel.out,drop_end hk hlt];rfl),q,rfl⟩
 ·have hne:((m.length:Int) != (l.length:Int))=true:=by simp;omega
  obtain ⟨HS,HV⟩:=hd2 (indexL_len hl) hV;clear hv hV
  go_enter Tryz.func98,Tryz.ntmps98
  go_wp2_with (go_at_call 50;refine HV.out.mono ?_;rintro e w' ⟨rfl,rfl⟩)
  go_ret2
  exact ⟨ret_ie HS.out.symm,0,rfl⟩
theorem sideB_yes {n:Int} (h1:¬ n < 1) (h2:¬ 64 < n):sideB n=true:=by unfold sideB;simp;omega
theorem rWin_arg {w:World} {F:Nat->Prop} {a:Option Addr} {l:List Int} (ca:Nat) (kh kw s p:Int) (h:Ints w F a l) (hbad:argBad l kh kw s p=true):
  Calls Tryz.prog 64 #[.slice a l.length ca,.int .i64 kh,.int .i64 kw,.int .i64 s,.int .i64 p] w (WinPost w l kh kw s p):=by
 have HS:=hid (windowsL_arg hbad);have hV:=r11Valid ca h;clear h;cases hv:validL l
 ·rw [hv] at hV;have HV:=hid hV;clear hv hV hbad
  go_enter Tryz.func64,Tryz.ntmps64
  go_wp2_with (go_at_call 50;refine HV.out.mono ?_;rintro e w' ⟨rfl,rfl⟩)
  refine bodyPost_ret (results_tmp4 rfl _ _ _) rfl ?_
  exact winPost_err HS.out (Below.refl _ _)
 rw [hv] at hV;have HV:=hid hV;clear hV
 by_cases h1:kh < 1
 ·clear hv hbad
  go_enter Tryz.func64,Tryz.ntmps64
  go_wp2_with (go_at_call 50;refine HV.out.mono ?_;rintro e w' ⟨rfl,rfl⟩)
  refine bodyPost_ret (results_tmp4 rfl _ _ _) rfl ?_
  exact winPost_err HS.out (Below.refl _ _)
 by_cases h2:64 < kh
 ·clear hv hbad
  go_enter Tryz.func64,Tryz.ntmps64
  go_wp2_with (go_at_call 50;refine HV.out.mono ?_;rintro e w' ⟨rfl,rfl⟩)
  refine bodyPost_ret (results_tmp4 rfl _ _ _) rfl ?_
  exact winPost_err HS.out (Below.refl _ _)
 by_cases h3:kw < 1
 ·clear hv hbad
  go_enter Tryz.func64,Tryz.ntmps64
  go_wp2_with (go_at_call 50;refine HV.out.mono ?_;rintro e w' ⟨rfl,rfl⟩)
  refine bodyPost_ret (results_tmp4 rfl _ _ _) rfl ?_
  exact winPost_err HS.out (Below.refl _ _)
 by_cases h4:64 < kw
 ·clear hv hbad
  go_enter Tryz.func64,Tryz.ntmps64
  go_wp2_with (go_at_call 50;refine HV.out.mono ?_;rintro e w' ⟨rfl,rfl⟩)
  refine bodyPost_ret (results_tmp4 rfl _ _ _) rfl ?_
  exact winPost_err HS.out (Below.refl _ _)
 by_cases h5:s < 1
 ·clear hv hbad
  go_enter Tryz.func64,Tryz.ntmps64
  go_wp2_with (go_at_call 50;refine HV.out.mono ?_;rintro e w' ⟨rfl,rfl⟩)
  refine bodyPost_ret (results_tmp4 rfl _ _ _) rfl ?_
  exact winPost_err HS.out (Below.refl _ _)
 by_cases h6:64 < s
 ·clear hv hbad
  go_enter Tryz.func64,Tryz.ntmps64
  go_wp2_with (go_at_call 50;refine HV.out.mono ?_;rintro e w' ⟨rfl,rfl⟩)
  refine bodyPost_ret (results_tmp4 rfl _ _ _) rfl ?_
  exact winPost_err HS.out (Below.refl _ _)
 by_cases h7:p < 0
 ·clear hv hbad
  go_enter Tryz.func64,Tryz.ntmps64
  go_wp2_with (go_at_call 50;refine HV.out.mono ?_;rintro e w' ⟨rfl,rfl⟩)
  refine bodyPost_ret (results_tmp4 rfl _ _ _) rfl ?_
  exact winPost_err HS.out (Below.refl _ _)
 by_cases h8:kh<=p
 ·clear hv hbad
  go_enter Tryz.func64,Tryz.ntmps64
  go_wp2_with (go_at_call 50;refine HV.out.mono ?_;rintro e w' ⟨rfl,rfl⟩)
  refine bodyPost_ret (results_tmp4 rfl _ _ _) rfl ?_
  exact winPost_err HS.out (Below.refl _ _)
 by_cases h9:kw<=p
 ·clear hv hbad
  go_enter Tryz.func64,Tryz.ntmps64
  go_wp2_with (go_at_call 50;refine HV.out.mono ?_;rintro e w' ⟨rfl,rfl⟩)
  refine bodyPost_ret (results_tmp4 rfl _ _ _) rfl ?_
  exact winPost_err HS.out (Below.refl _ _)
 simp [argBad,hv,sideB_yes h1 h2,sideB_yes h3 h4,sideB_yes h5 h6,h7,h8,h9] at hbad
theorem rWin_shape {w:World} {F:Nat->Prop} {a:Option Addr} {l:List Int} (ca:Nat) (kh kw s p:Int) (h:Ints w F a l) (hno:argBad l kh kw s p=false) (hbad:shapeBad l kh kw p=true):
  Calls Tryz.prog 64 #[.slice a l.length ca,.int .i64 kh,.int .i64 kw,.int .i64 s,.int .i64 p] w (WinPost w l kh kw s p):=by
 have HS:=hid (windowsL_shape hno hbad);have hV:=r11Valid ca h;have hlen:=h.len;obtain ⟨hv,s1,s2,s3,⟨b1,b1'⟩,⟨b2,b2'⟩,⟨b3,b3'⟩,b4,b5,b6⟩:=argBad_no hno;have hm:=validL_mem hv;rw [hv] at hV;have HV:=hid hV;clear hV hv s1 s2 s3
 by_cases hl:l.length=3
 ·obtain ⟨bb,off,c,x,y,rfl,_,hx,hy,e0,e1,e2⟩:=h.three hl;have hx1:=hm x (List.mem_of_getElem? e1);have hy1:=hm y (List.mem_of_getElem? e2);have h3:3<=l.length:=by omega
  have hne:((l.length:Int) != 3)=false:=by simp;omega
  have hg1:l.getD 1 0=x:=by simp [List.getD,e1]
  have hg2:l.getD 2 0=y:=by simp [List.getD,e2]
  obtain ⟨HG1,HG2,HL⟩:=hd3 hg1 hg2 hl;clear hm h hno hl e0 e1 e2 hg1 hg2
  by_cases h1:x+2 * p < kh
  ·clear hbad
   go_enter Tryz.func64,Tryz.ntmps64
   go_wp2_with (go_at_call 50;refine HV.out.mono ?_;rintro e w' ⟨rfl,rfl⟩)
   refine bodyPost_ret (results_tmp4 rfl _ _ _) rfl ?_
   exact winPost_err HS.out (Below.refl _ _)
  by_cases h2:y+2 * p < kw
  ·clear hbad
   go_enter Tryz.func64,Tryz.ntmps64
   go_wp2_with (go_at_call 50;refine HV.out.mono ?_;rintro e w' ⟨rfl,rfl⟩)
   refine bodyPost_ret (results_tmp4 rfl _ _ _) rfl ?_
   exact winPost_err HS.out (Below.refl _ _)
  unfold shapeBad at hbad;rw [HG1.out,HG2.out] at hbad;simp only [HL.out] at hbad;simp at hbad;omega
 ·have hne:((l.length:Int) != 3)=true:=by rw [bne_iff_ne];omega
  clear hm hno hbad hl h
  go_enter Tryz.func64,Tryz.ntmps64
  go_wp2_with (go_at_call 50;refine HV.out.mono ?_;rintro e w' ⟨rfl,rfl⟩)
  refine bodyPost_ret (results_tmp4 rfl _ _ _) rfl ?_
  exact winPost_err HS.out (Below.refl _ _)
theorem ownsRow_below {w w':World} {base:Nat} {e:TypeId} {size:Nat} {v:Value} {n:Nat} {xs:List Value} (h:w.ownsRow base e size v n xs) (hb:Below w.heap.size w w'):w'.ownsRow base e size v n xs:=
 h.kept (row:=none) ⟨hb.os,hb.tape,hb.output,hb.size,fun k hk _=>hb.block k hk⟩ (by cases hv:v.ownBlock <;> simp)
theorem rIndex_as {w:World} {F G:Nat->Prop} {a b:Option Addr} {l m:List Int} (ca cb:Nat) (h:Ints w F a l) (g:Ints w G b m) {p:Int × Int} (hp:indexL l m=p):
  Calls Tryz.prog 98 #[.slice a l.length ca,.slice b m.length cb] w fun e w'=>e=.returned (.tuple #[.int .i64 p.1,.int .i64 p.2])/\Below w.heap.size w w':=by
 subst hp
 refine (rIndex ca cb h g).mono ?_
 rintro e w' ⟨rfl,n,rfl⟩;exact ⟨rfl,below_drewN (Below.refl _ _) _⟩
theorem indexL_win {q:Win} {l:List Int} (hv:validL l=true) (hl:l=[(q.C:Int),(q.H:Int),(q.W:Int)]) {ch:Nat} (hch:ch < q.C) (y x:Int):
  indexL l [(ch:Int),y,x]=if 0<=y/\y < q.H/\0<=x/\x < q.W then (((ch:Int) * q.H+y) * q.W+x,0) else (0,2):=by
 subst hl;have h1:¬ ((ch:Int) < 0 ∨ (q.C:Int)<=ch):=by omega
 simp only [indexL,hv,List.length_cons,List.length_nil,and_self,if_true,indexFrom,if_neg h1,Int.zero_mul,Int.zero_add]
 by_cases hy:y < 0 ∨ (q.H:Int)<=y
 ·rw [if_pos hy,if_neg (by omega)]
 ·rw [if_neg hy]
  by_cases hx:x < 0 ∨ (q.W:Int)<=x
  ·rw [if_pos hx,if_neg (by omega)]
  ·rw [if_neg hx,if_pos (by omega)]
theorem Ints.made3 {w:World} {E:Nat} (x y z:Int) (hx: -9223372036854775808<=x/\x<=9223372036854775807) (hy: -9223372036854775808<=y/\y<=9223372036854775807) (hz: -9223372036854775808<=z/\z<=9223372036854775807):
  Ints (w.alloc (.cells #[.int .i64 x,.int .i64 y,.int .i64 z] E)) Any (some ⟨w.heap.size,0,none⟩) [x,y,z]:=by
 refine ⟨by simp;omega,by simp,.inr ⟨w.heap.size,0,rfl,trivial,by simp,fun j d hj=>?_⟩⟩
 match j,hj with
 | 0,hj=>simp at hj;subst hj;simp
 | 1,hj=>simp at hj;subst hj;simp
 | 2,hj=>simp at hj;subst hj;simp
theorem rWin_in {w:World} {F:Nat->Prop} {a:Option Addr} {l:List Int} (ca:Nat) (kh kw s p:Int) (h:Ints w F a l) (hno:argBad l kh kw s p=false) (hno2:shapeBad l kh kw p=false):
  Calls Tryz.prog 64 #[.slice a l.length ca,.int .i64 kh,.int .i64 kw,.int .i64 s,.int .i64 p] w (WinPost w l kh kw s p):=by
 have hV:=r11Valid ca h;have hlen:=h.len;obtain ⟨hv,s1,s2,s3,_⟩:=argBad_no hno;obtain ⟨q,hq,hwin,rfl',rfl,rfl,rfl,rfl⟩:=winOf_ok hno hno2;have hl:l.length=3:=by rw [rfl'];rfl
 have hq1:=hq.c1;have hq2:=hq.h1;have hq3:=hq.w1;have hq4:=hq.kh1;have hq5:=hq.kh2;have hq6:=hq.kw1;have hq7:=hq.kw2;have hq8:=hq.s1;have hq9:=hq.s2;have hqa:=hq.ph;have hqb:=hq.pw;have hqc:=hq.fh;have hqd:=hq.fw;have hqe:=hq.c2;have hqf:=hq.h2;have hqg:=hq.w2;have hqh:=hq.r2;have hqi:=hq.q2;obtain ⟨bb,off,c,x,y,rfl,hc,hx,hy,e0,e1,e2⟩:=h.three hl;obtain rfl:c=q.C:=by rw [rfl'] at e0;simpa using e0.symm
 obtain rfl:x=q.H:=by rw [rfl'] at e1;simpa using e1.symm
 obtain rfl:y=q.W:=by rw [rfl'] at e2;simpa using e2.symm
 rw [hv] at hV;have HV:=hid hV;have h3:3<=l.length:=by omega
 have hne:((l.length:Int) != 3)=false:=by simp;omega
 have HLL:=hid rfl';have hbb:=World.block_lt_of_cell? w _ hc;obtain ⟨HI,HVL,HC⟩:=hd3 h hv hc;clear hV hl e0 e1 e2 rfl' h hv
 go_enter Tryz.func64,Tryz.ntmps64
 go_wp2_with (go_at_call 50;refine HV.out.mono ?_;rintro e w' ⟨rfl,rfl⟩)
 go_quiet (fail)
 rw [hq.rInt,hq.qInt,IntWalk.wrap64_in (q.R:Int) ⟨by omega,by omega⟩,IntWalk.wrap64_in (q.Q:Int) ⟨by omega,by omega⟩];obtain ⟨⟨p1,p2⟩,⟨p3,p4⟩,⟨p5,p6⟩,⟨p7,p8⟩⟩:=hq.prods
 by_cases hmany:262144 < (q.R:Int) * q.Q * q.C * q.kh * q.kw
 ·go_wp2
  refine bodyPost_ret (results_tmp4 rfl _ _ _) rfl ?_
  refine winPost_err (windowsL_many hno hno2 ?_) (below_drewN (Below.refl _ _) _)
  rw [hwin];have:((q.total:Nat):Int)=(q.R:Int) * q.Q * q.C * q.kh * q.kw:=by simp [Win.total]
  omega
 have HS:Hid (windowsL l q.kh q.kw q.s q.p=(q.all,(q.R:Int),(q.Q:Int),0)):=by
  unfold Hid;rw [windowsL_ok hno hno2 (by
   rw [hwin];have:((q.total:Nat):Int)=(q.R:Int) * q.Q * q.C * q.kh * q.kw:=by simp [Win.total]
   omega),hwin]
 have HW:=hid hwin;clear hno hno2 hwin HV;go_wp2;clear p1 p2 p3 p4 p5 p6 p7 p8 hmany hc hx hy hne
 go_loopw [16,17] (fun v j wr=>∃ (r:Nat) (L:List (List Int)) (xs:List Value),r<=q.R/\j=.int .i64 r/\Hid (L=(List.range r).flatMap q.rowOf)/\Hid (OwnSS wr w.heap.size 22 v xs L)/\L.length<=r * 16600/\Below w.heap.size w wr)
  (fun _ j _=>q.R - (intOf j).toNat)
 case atStart=>exact ⟨0,[],[],by omega,rfl,rfl,OwnSS.nil _ _ _,by simp,below_drewN (Below.refl _ _) _⟩
 case round=>
  obtain ⟨r,L,xs,hr,rfl,HL,HO,hLl,hB⟩:=hrel;obtain ⟨wo,rfl⟩:∃ wo:World,wo=wr:=⟨_,rfl⟩
  by_cases hlt:r < q.R
  ·go_wp2
   go_loopw [16,18] (fun v j wr=>∃ (c:Nat) (M:List (List Int)) (xs:List Value),c<=q.Q/\j=.int .i64 c/\Hid (M=L++(List.range c).map (q.one r))/\Hid (OwnSS wr w.heap.size 22 v xs M)/\M.length<=r * 16600+c/\Below w.heap.size w wr)
    (fun _ j _=>q.Q - (intOf j).toNat)
   case atStart=>exact ⟨0,L,xs,by omega,rfl,by simp [Hid],HO,by omega,hB⟩
   case round=>
    clear hB HO;obtain ⟨c,M,xs,hc,rfl,HM,HO,hMl,hB⟩:=hrel;obtain ⟨wc,rfl⟩:∃ wc:World,wc=wr:=⟨_,rfl⟩
    by_cases hltc:c < q.Q
    ·obtain ⟨⟨g1,g2⟩,g3,g4⟩:=hq.pos hlt hltc;go_wp2
     go_loopw [19,20] (fun v j wr=>∃ (ch:Nat) (P:List Int),ch<=q.C/\j=.int .i64 ch/\Hid (P=(List.range ch).flatMap (q.chan r c))/\P.length<=ch * 4096/\Hid (wr.ownsRow wc.heap.size 3 1 v P.length (P.map (Value.int .i64)))/\Below wc.heap.size wc wr)
      (fun _ j _=>q.C - (intOf j).toNat)
     case atStart=>exact ⟨0,[],by omega,rfl,rfl,by simp,World.ownsRow_nil _ _ _ _,Below.refl _ _⟩
     case round=>
      obtain ⟨ch,P,hch,rfl,HP,hPl,HV,hBc⟩:=hrel;have hcw:wr.cell? ⟨bb,off,none⟩=some (.int .i64 q.C):=((hB.trans (hBc.mono hB.size)).cell (p:=⟨bb,off,none⟩) hbb).trans HC.out
      by_cases hltch:ch < q.C
      ·go_wp2
       go_loopw [19,21] (fun v j wr=>∃ (i:Nat) (S:List Int),i<=q.kh/\j=.int .i64 i/\Hid (S=P++(List.range i).flatMap (q.line r c ch))/\S.length<=ch * 4096+i * 64/\Hid (wr.ownsRow wc.heap.size 3 1 v S.length (S.map (Value.int .i64)))/\Below wc.heap.size wc wr)
        (fun _ j _=>q.kh - (intOf j).toNat)
       case atStart=>exact ⟨0,P,by omega,rfl,by simp [Hid],by omega,HV,hBc⟩
       case round=>
        clear hBc HV;obtain ⟨i,S,hi,rfl,HSl,hSl,HV,hBc⟩:=hrel
        by_cases hlti:i < q.kh
        ·go_wp2
         go_loopw [19,22] (fun v j wr=>∃ (k:Nat) (T:List Int),k<=q.kw/\j=.int .i64 k/\Hid (T=S++(List.range k).map (q.at r c ch i))/\T.length<=ch * 4096+i * 64+k/\Hid (wr.ownsRow wc.heap.size 3 1 v T.length (T.map (Value.int .i64)))/\Below wc.heap.size wc wr)
          (fun _ j _=>q.kw - (intOf j).toNat)
         case atStart=>exact ⟨0,S,by omega,rfl,by simp [Hid],by omega,HV,hBc⟩
         case round=>
          clear hBc HV;obtain ⟨k,T,hk,rfl,HT,hTl,HV,hBc⟩:=hrel
          by_cases hltk:k < q.kw
          ·have hI2:=(HI.out.below ((hB.trans (hBc.mono hB.size)))).below ((Below.refl _ wr).alloc (Nat.le_refl _) (.cells #[.int .i64 ch,.int .i64 ((r:Int) * q.s+i - q.p),.int .i64 ((c:Int) * q.s+k - q.p)] 3));have hI3:=Ints.made3 (w:=wr) (E:=3) (ch:Int) ((r:Int) * q.s+i - q.p) ((c:Int) * q.s+k - q.p) ⟨by omega,by omega⟩ ⟨by omega,by omega⟩ ⟨by omega,by omega⟩;have hX:=indexL_win HVL.out HLL.out hltch ((r:Int) * q.s+i - q.p) ((c:Int) * q.s+k - q.p);clear HS HW HL HM HP HSl HO hB hLl hMl hPl hSl
           by_cases hin:0<=(r:Int) * q.s+i - q.p/\(r:Int) * q.s+i - q.p < q.H/\0<=(c:Int) * q.s+k - q.p/\(c:Int) * q.s+k - q.p < q.W
           ·have HA:q.at r c ch i k=((ch:Int) * q.H+((r:Int) * q.s+i - q.p)) * q.W+((c:Int) * q.s+k - q.p):=by unfold Win.at cellW;rw [if_pos hin]
            have HA:=hid HA;rw [if_pos hin] at hX;have HX:=hid hX;clear hX hin
            go_wp2_with (first
             | (go_at_call 98;refine (rIndex_as ca 3 hI2 hI3 HX.out).mono ?_;rintro e wI ⟨rfl,hbI⟩;have hown2:=ownsRow_below (HV.out.alloc _) hbI)
             | (at_builtin;refine wpList_app1 rfl (.tmp 173) (.tmp 175) 22 rfl wc.heap.size 3 (.int .i64 0) 8 Tryz.underlying22 Tryz.info3 rfl _ T.length _ rfl hown2 _ rfl rfl (by omega) (by unfold maxLen;omega) (by have:=hBc.size;have:=hbI.size;simp at this;omega) ?_;intro v' w' hown hg hn))
            go_roundw
            case rel=>
             have hbA:Below wc.heap.size wc wI:=hBc.trans (((Below.refl _ wr).alloc hBc.size _).trans (hbI.mono (by have:=hBc.size;simp;omega)))
             refine ⟨k+1,T++[q.at r c ch i k],by omega,by go_num,?_,by simp;omega,?_,hbA.grown hg hbA.size (fun k hk=>(HV.out.lt k hk).1)⟩
             ·unfold Hid;rw [map_snoc,HT.out]
             ·unfold Hid;rw [HA.out];simpa using hown
            case measure=>simp [intOf];omega
           ·have HA:q.at r c ch i k= -1:=by unfold Win.at cellW;rw [if_neg hin]
            have HA:=hid HA;rw [if_neg hin] at hX;have HX:=hid hX;clear hX hin
            go_wp2_with (first
             | (go_at_call 98;refine (rIndex_as ca 3 hI2 hI3 HX.out).mono ?_;rintro e wI ⟨rfl,hbI⟩;have hown2:=ownsRow_below (HV.out.alloc _) hbI)
             | (at_builtin;refine wpList_app1 rfl (.tmp 173) (.tmp 175) 22 rfl wc.heap.size 3 (.int .i64 0) 8 Tryz.underlying22 Tryz.info3 rfl _ T.length _ rfl hown2 _ rfl rfl (by omega) (by unfold maxLen;omega) (by have:=hBc.size;have:=hbI.size;simp at this;omega) ?_;intro v' w' hown hg hn))
            go_roundw
            case rel=>
             have hbA:Below wc.heap.size wc wI:=hBc.trans (((Below.refl _ wr).alloc hBc.size _).trans (hbI.mono (by have:=hBc.size;simp;omega)))
             refine ⟨k+1,T++[q.at r c ch i k],by omega,by go_num,?_,by simp;omega,?_,hbA.grown hg hbA.size (fun k hk=>(HV.out.lt k hk).1)⟩
             ·unfold Hid;rw [map_snoc,HT.out]
             ·unfold Hid;rw [HA.out];simpa using hown
            case measure=>simp [intOf];omega
          ·obtain rfl:k=q.kw:=by omega
           go_wp2;go_roundw
           case rel=>exact ⟨i+1,T,by omega,by go_num,by unfold Hid;rw [flat_snoc, <- HSl.out];exact HT.out,by omega,HV,hBc⟩
           case measure=>simp [intOf];omega
        ·obtain rfl:i=q.kh:=by omega
         go_wp2;go_roundw
         case rel=>exact ⟨ch+1,S,by omega,by go_num,by
          unfold Hid;have:=flat_snoc [] (q.chan r c) ch;simp only [List.nil_append] at this;rw [this, <- HP.out];exact HSl.out,by omega,HV,hBc⟩
         case measure=>simp [intOf];omega
      ·obtain rfl:ch=q.C:=by omega
       have hown:=HV.out;obtain ⟨aw,cw,hvw,hIw⟩:=Ints.own (l:=P) hown (by rw [HP.out];intro x hx;have:=hq.one_bd r c x hx;omega) (by omega);have hcapw:=Ints.own_cap hown hvw;have HO':=HO.out.frame hBc;have hob:=hown.lt;subst hvw;clear hown HV
       go_wp2_with (at_builtin;refine wpList_app1 rfl (.tmp 177) (.tmp 179) 65 rfl w.heap.size 22 (.slice none 0 0) 24 Tryz.underlying65 Tryz.info22 rfl _ M.length xs rfl HO'.own _ rfl rfl (by omega) (by unfold maxLen;omega) (by have:=hB.size;have:=hBc.size;omega) ?_;intro v' w' hown hg hn)
       go_roundw
       case rel=>
        refine ⟨c+1,M++[q.one r c],xs++[.slice aw P.length cw],by omega,by go_num,?_,?_,by simp;omega,(hB.trans (hBc.mono hB.size)).grown hg (by have:=hB.size;have:=hBc.size;omega) (fun k hk=>(HO'.own.lt k hk).1)⟩
        ·unfold Hid;rw [map_snoc,HM.out]
        ·unfold Hid;have HPe:q.one r c=P:=HP.out.symm;rw [HPe];exact HO'.app hIw hcapw (fun b hb=>⟨by have:=(hob b hb).1;have:=hB.size;omega,fun e=>by have:=(HO.out.own.lt b e).2;have:=(hob b hb).1;omega⟩) hown hg hn
       case measure=>simp [intOf];omega
    ·obtain rfl:c=q.Q:=by omega
     go_wp2;go_roundw
     case rel=>exact ⟨r+1,M,xs,by omega,by go_num,by
      unfold Hid;have:=flat_snoc [] q.rowOf r;simp only [List.nil_append] at this;rw [this, <- HL.out];exact HM.out,HO,by omega,hB⟩
     case measure=>simp [intOf];omega
  ·obtain rfl:r=q.R:=by omega
   go_wp2
   refine bodyPost_ret (results_tmp4 rfl _ _ _) rfl ?_
   obtain ⟨a',c',hv',hI⟩:=HO.out.intss (by omega);have hLq:L=q.all:=HL.out
   refine ⟨a',c',?_,?_,hB⟩
   ·rw [HS.out, <- hLq, <- hv'];rfl
   ·rw [HS.out, <- hLq];exact hI
theorem rWin {w:World} {F:Nat->Prop} {a:Option Addr} {l:List Int} (ca:Nat) (kh kw s p:Int) (h:Ints w F a l):
  Calls Tryz.prog 64 #[.slice a l.length ca,.int .i64 kh,.int .i64 kw,.int .i64 s,.int .i64 p] w (WinPost w l kh kw s p):=by
 cases h1:argBad l kh kw s p
 ·cases h2:shapeBad l kh kw p
  ·exact rWin_in ca kh kw s p h h1 h2
  ·exact rWin_shape ca kh kw s p h h1 h2
 ·exact rWin_arg ca kh kw s p h h1
theorem Win.Ok.bare {q:Win} (h:q.Ok) (hp:q.p=0) {r c ch i k:Nat} (hr:r < q.R) (hc:c < q.Q) (hi:i < q.kh) (hk:k < q.kw):
  q.at r c ch i k=((ch:Int) * q.H+((r:Int) * q.s+i)) * q.W+((c:Int) * q.s+k)/\(r:Int) * q.s+i < q.H/\(c:Int) * q.s+k < q.W:=by
 have f1:=h.fh;have f2:=h.fw;have s1:=h.s1;rw [hp] at f1 f2;have a1:r * q.s<=q.H - q.kh:=by
  have:r<=(q.H - q.kh) / q.s:=by unfold Win.R at hr;rw [hp] at hr;simp at hr;omega
  exact Nat.le_trans (Nat.mul_le_mul_right _ this) (Nat.div_mul_le_self _ _)
 have a2:c * q.s<=q.W - q.kw:=by
  have:c<=(q.W - q.kw) / q.s:=by unfold Win.Q at hc;rw [hp] at hc;simp at hc;omega
  exact Nat.le_trans (Nat.mul_le_mul_right _ this) (Nat.div_mul_le_self _ _)
 have b1:((r * q.s:Nat):Int)=(r:Int) * q.s:=by simp
 have b2:((c * q.s:Nat):Int)=(c:Int) * q.s:=by simp
 refine ⟨?_,by omega,by omega⟩
 unfold Win.at cellW;rw [if_pos (by rw [hp];omega),hp];simp
structure AllJ (W1:World) (G:Nat->Value->World->Prop) (d:Nat->Bool) (g:Nat->Value) (W:World):Prop where
 be:Below W1.heap.size W1 W
 all:∀ i,d i=true->G i (g i) W
theorem AllJ.start {W1:World} {G:Nat->Value->World->Prop} (g:Nat->Value):AllJ W1 G (fun _=>false) g W1.drew:=⟨(Below.refl _ _).drew,fun _ h=>by cases h⟩
theorem AllJ.step {W1:World} {G:Nat->Value->World->Prop} {d:Nat->Bool} {g:Nat->Value} {W W':World} (h:AllJ W1 G d g W) (hG:∀ i v w w',G i v w->Below w.heap.size w w'->G i v w') {i:Nat} {v:Value} (hb:Below W.heap.size W W') (hv:G i v W'):AllJ W1 G (mark d i) (upd g i v) W':=by
 refine ⟨h.be.trans (hb.mono h.be.size),fun j hj=>?_⟩
 unfold upd
 by_cases e:j=i
 ·subst e;rw [if_pos rfl];exact hv
 ·rw [if_neg e];unfold mark at hj;rw [if_neg e] at hj;exact hG _ _ _ _ (h.all j hj) hb
theorem AllJ.here {W1:World} {G:Nat->Value->World->Prop} {d:Nat->Bool} {g:Nat->Value} {W:World} (h:AllJ W1 G d g W) (hG:∀ i v w w',G i v w->Below w.heap.size w w'->G i v w') {i:Nat} {v:Value} (hv:G i v W):AllJ W1 G (mark d i) (upd g i v) W:=h.step hG (Below.refl _ _) hv
section
variable {P:Program} {Q:Exit->Act->World->Prop}
theorem wp_region_slots_tail_g {l:List Oper} (n:Nat) {id:Nat} {a:Act} {w:World} (hm:P.follows .mixedOrders=true) (hap:aparts (l.take n)=true) (hbk:backs l 0=true) (hus:((List.range (l.length - n)).all fun j=>usedUpto l.toArray (n+j))=true) (hn:n < l.length) (R:World->Prop) (S:World->World->Prop) (G:Nat->Value->World->Prop)
  (hG:∀ i v w w',G i v w->S w w'->G i v w') (h0:R w.drew) (hshow:∀ ops:Array Oper,(∀ j:Nat,(ops[j]?).bind (fun o:Oper=>o.dst)=(l[j]?).bind (fun o:Oper=>o.dst))->Shows P ops Q a (l.take n) R S G (l.take n) 0)
  (hlast:∀ ops (g:Nat->Value) (w':World),R w'->LaidAll G g w' n->wpList P ops Q (l.drop n) (fillFrom (l.take n) 0 g a) w'):(Code.region id l.toArray true).wp P Q a w:=by
 have hsz:l.toArray.size=l.length:=by simp
 have htl:(l.take n).length=n:=by rw [List.length_take];omega
 have hup:∀ t,n<=t->t < l.length->usedUpto l.toArray t=true:=by
  intro t h1 h2;have:=List.all_eq_true.1 hus (t - n) (List.mem_range.2 (by omega));rw [show n+(t - n)=t by omega] at this;exact this
 refine wp_region_inv hm (fun listed a' w'=>listed.size=l.length/\(∀ i o,l.toArray[i]? =some o->listed.getD i false=true->∀ e ∈ o.after,Region.binds .any e=true->listed.getD e.on false=true)/\
  (((∀ i,n<=i->listed.getD i false=false)/\∃ g,a'=fillFrom (l.take n) 0 g a/\R w'/\∀ i,i < n->listed.getD i false=true->G i (g i) w') ∨
   (∃ m,n < m/\m<=l.length/\(∀ i,i < m->listed.getD i false=true)/\(∀ i,m<=i->listed.getD i false=false)/\wpList P l.toArray Q (l.drop m) a' w'))) ?_ ?_ ?_
 ·have hrep:∀ i,(Array.replicate l.toArray.size false).getD i false=false:=by
   intro i;simp only [Array.getD_eq_getD_getElem?,Array.getElem?_replicate]
   split <;> rfl
  refine ⟨by simp,?_,.inl ⟨fun i _=>hrep i,slotsOf (l.take n) a,(fillFrom_self _ _ _ (fun i _=>by rw [Nat.zero_add])).symm,h0,?_⟩⟩
  ·intro i o _ hi;rw [hrep] at hi;cases hi
  ·intro i _ hi;rw [hrep] at hi;cases hi
 ·rintro listed a' w' ⟨hs,hc,⟨hl,_⟩ | ⟨m,h1,h2,_,h4,hq⟩⟩ hr
  ·have:=all_listed (by rw [hs,hsz]) hbk hr n (by rw [hsz];exact hn);rw [hl n (Nat.le_refl _)] at this;cases this
  ·have hml:m=l.length:=by
    rcases Nat.lt_or_ge m l.length with h | h
    ·have:=all_listed (by rw [hs,hsz]) hbk hr m (by rw [hsz];exact h);rw [h4 m (Nat.le_refl _)] at this;cases this
    ·omega
   rw [hml,List.drop_length] at hq;exact hq
 ·rintro listed a' w' i ⟨hs,hc,hI⟩ hi;obtain ⟨hu,o,ho,hdep⟩:=mem_ready.1 hi;have hlt:i < l.length:=by have:=(Array.getElem?_eq_some_iff.1 ho).1;rw [hsz] at this;exact this
  have hset:(listed.setIfInBounds i true).getD i false=true:=by simp [Array.getD_eq_getD_getElem?,Array.getElem?_setIfInBounds,hs,hlt]
  have hclo:∀ k o',l.toArray[k]? =some o'->(listed.setIfInBounds i true).getD k false=true->∀ e ∈ o'.after,Region.binds .any e=true->(listed.setIfInBounds i true).getD e.on false=true:=by
   have hupl:∀ j,listed.getD j false=true->(listed.setIfInBounds i true).getD j false=true:=by
    intro j hj
    by_cases hij:i=j
    ·subst hij;exact hset
    ·rw [getD_set_ne _ hij];exact hj
   intro k o' ho' hk e he hb
   by_cases hik:i=k
   ·subst hik;rw [ho] at ho';cases ho';exact hupl _ (hdep e he hb)
   ·rw [getD_set_ne _ hik] at hk;exact hupl _ (hc k o' ho' hk e he hb)
  rcases hI with ⟨hl,g,rfl,hR,hall⟩ | ⟨m,h1,h2,h3,h4,hq⟩
  ·by_cases hil:n<=i
   ·have hA:=upto_ready (by rw [hsz];exact hlt) (hup i hil hlt) hc hi;have hin:i=n:=by
     rcases Nat.lt_or_ge n i with h | h
     ·have:=hA n h;rw [hl n (Nat.le_refl _)] at this;cases this
     ·omega
    subst hin;have hs1:=hlast l.toArray g w' hR (LaidAll.of _ fun j hj=>hall j hj (hA j hj));have ho':l[i]? =some o:=by simpa using ho
    have hd:l.drop i=o::l.drop (i+1):=by
     have hx:l[i]=o:=by rw [List.getElem?_eq_getElem hlt] at ho';exact Option.some.inj ho'
     rw [List.drop_eq_getElem_cons hlt,hx]
    rw [hd] at hs1
    refine wpOp_mono ?_ (wpOp_of_cons ho hs1)
    intro a2 w2 hq
    refine ⟨by simp [hs],hclo,.inr ⟨i+1,by omega,by omega,fun j hj=>?_,fun j hj=>?_,hq⟩⟩
    ·by_cases hij:i=j
     ·subst hij;exact hset
     ·rw [getD_set_ne _ hij];exact hA j (by omega)
    ·rw [getD_set_ne _ (by omega)];exact hl j (by omega)
   ·have hil':i < n:=by omega
    have ho':(l.take n)[i]? =some o:=by
     rw [List.getElem?_take,if_pos hil'];simpa using ho
    have hL:Laid G g w' o.after.toList:=Laid.of _ fun e he hb=>hall _ (by
     have:=backs_at _ _ hbk i o (by simpa using ho) e (by simpa using he) hb;omega) (hdep e (by simpa using he) hb)
    have hs1:=(hshow l.toArray (fun j=>by simp)).at _ _ i o ho' g w' hR hL;rw [Nat.zero_add] at hs1
    refine wpOp_mono ?_ (wpOp_of_list ho hs1)
    rintro a2 w2 ⟨v,rfl,hR2,hS2,hG2⟩
    refine ⟨by simp [hs],hclo,.inl ⟨fun j hj=>by rw [getD_set_ne _ (by omega)];exact hl j hj,upd g i v,?_,hR2,fun j hjl hj=>?_⟩⟩
    ·have:=fillFrom_upd (g:=g) (v:=v) (l.take n) 0 i a hap (by rw [htl];exact hil');rw [Nat.zero_add] at this;rw [<- this];simp only [ho',Option.bind_some]
    ·by_cases hij:j=i
     ·subst hij;unfold upd;rw [if_pos rfl];exact hG2
     ·unfold upd;rw [if_neg hij]
      refine hG _ _ _ _ (hall j hjl ?_) hS2
      rw [getD_set_ne _ (Ne.symm hij)] at hj;exact hj
  ·have hmi:m<=i:=by
    rcases Nat.lt_or_ge i m with h | h
    ·have h5:=h3 i h;rw [Array.getD_eq_getD_getElem?] at h5 hu
     cases hx:listed[i]? with
     | none=>rw [hx] at h5;cases h5
     | some b=>rw [hx] at h5 hu;simp at h5 hu;rw [h5] at hu;cases hu
    ·exact h
   have hA:=upto_ready (by rw [hsz];exact hlt) (hup i (by omega) hlt) hc hi;have him:i=m:=by
    rcases Nat.lt_or_ge m i with h | h
    ·have:=hA m h;rw [h4 m (Nat.le_refl _)] at this;cases this
    ·omega
   subst him;have ho':l[i]? =some o:=by simpa using ho
   have hd:l.drop i=o::l.drop (i+1):=by
    have hx:l[i]=o:=by rw [List.getElem?_eq_getElem hlt] at ho';exact Option.some.inj ho'
    rw [List.drop_eq_getElem_cons hlt,hx]
   rw [hd] at hq
   refine wpOp_mono ?_ (wpOp_of_cons ho hq)
   intro a2 w2 hq
   refine ⟨by simp [hs],hclo,.inr ⟨i+1,by omega,by omega,fun j hj=>?_,fun j hj=>?_,hq⟩⟩
   ·by_cases hij:i=j
    ·subst hij;exact hset
    ·rw [getD_set_ne _ hij];exact h3 j (by omega)
   ·rw [getD_set_ne _ (by omega)];exact h4 j (by omega)
theorem wpList_on {ops:Array Oper} {dst:Option Tmp} {op:Op} {type:TypeId} {pos:String} {after:Array Edge} {j:Nat} {b:Bool} {rest:List Oper} {a:Act} {w:World} {x:Option Tmp} (hd:(ops[j]?).bind (fun o:Oper=>o.dst)=x) (t:Tmp) (hx:x=some t) (hv:a.tmps[t]? =some (.bool b))
  (h:wpList P ops Q (({ dst,op,type,pos,after,guard:=none }:Oper)::rest) a w):wpList P ops Q (({ dst,op,type,pos,after,guard:=some (j,b) }:Oper)::rest) a w:=by
 have hw:Region.wanted ({ dst,op,type,pos,after,guard:=some (j,b) }:Oper) (yielded ops a.tmps)=true:=by
  unfold Region.wanted yielded;simp only [hd,hx,Option.bind_some,hv];simp
 have hw2:Region.wanted ({ dst,op,type,pos,after,guard:=none }:Oper) (yielded ops a.tmps)=true:=rfl;unfold wpList at h ⊢;rw [if_pos hw2] at h;rw [if_pos hw];exact h
end
end Go.Proofs.YtfgmmghmmfmdgaaGreat
