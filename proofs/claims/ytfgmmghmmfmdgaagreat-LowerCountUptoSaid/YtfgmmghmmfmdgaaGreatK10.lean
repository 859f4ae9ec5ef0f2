/-
  Contracts of the functions that the statement reaches: ModC, ModD, ModE, RatQ, RatR.
-/
import Derived.Test.YtfgmmghmmfmdgaaGreatK7
set_option linter.all false
set_option maxRecDepth 100000
set_option maxHeartbeats 3200000
namespace Go.Proofs.YtfgmmghmmfmdgaaGreat
open Go.RowKit
open Go.Lib (hid)
theorem mSide (n:Int) (w:World):Calls Tryz.prog 149 #[.int .i64 n] w fun e w'=>e=.returned (.bool (sidB n))/\w=w':=by
 by_cases h1:1<=n
 ·by_cases h2:n<=64
  ·have HS:=hid (show sidB n=true by simp [sidB,h1,h2])
   go_enter Tryz.func149,Tryz.ntmps149
   go_wp2;go_ret;exact ⟨ret_bool HS.out.symm,rfl⟩
  ·have HS:=hid (show sidB n=false by simp [sidB,h2])
   go_enter Tryz.func149,Tryz.ntmps149
   go_wp2;go_ret;exact ⟨ret_bool HS.out.symm,rfl⟩
 ·have HS:=hid (show sidB n=false by simp [sidB,h1])
  go_enter Tryz.func149,Tryz.ntmps149
  go_wp2;go_ret;exact ⟨ret_bool HS.out.symm,rfl⟩
theorem mEqNat {w:World} {a b:Option Addr} {l m:List Nat} (c d:Nat) (h:U32s w a l) (g:U32s w b m):
  Calls Tryz.prog 165 #[.slice a l.length c,.slice b m.length d] w fun e w'=>e=.returned (.bool (decide (l=m)))/\Below w.heap.size w w':=by
 have hl:=h.len;have hm:=g.len;obtain ⟨HA,HB,HBn⟩:=hd3 h g (fun n=>Below.drewN_refl w n);clear h g
 go_enter Tryz.func165,Tryz.ntmps165
 by_cases he:l.length=m.length
 ·have HE:=hid he;have hlb:decide (¬ (l.length:Int)=(m.length:Int))=false:=by simp;omega
  have hlc:((l.length:Int)==(m.length:Int))=true:=by simp;omega
  have hge1:l.length<=m.length:=by omega
  have hge2:m.length<=l.length:=by omega
  go_wp2
  go_loopw [5,13] (fun _ i wr=>∃ j:Nat,j<=l.length/\i=.int .i64 (j:Int)/\Hid (l.take j=m.take j)/\Hid (∃ n,wr=w.drewN n)) (fun _ i _=>l.length - (intOf i).toNat)
  case atStart=>exact ⟨0,Nat.zero_le _,rfl,by simp [Hid],0,rfl⟩
  case round=>
   obtain ⟨j,hj,rfl,HT,HN⟩:=hrel;obtain ⟨nd,rfl⟩:=HN.out
   by_cases hlt:j < l.length
   ·have hltm:j < m.length:=by omega
    obtain ⟨p1,o1,rfl,_,cA⟩:=HA.out.pick hlt;obtain ⟨p2,o2,rfl,_,cB⟩:=HB.out.pick hltm;obtain ⟨TA,TB,GA,GB⟩:=hd4 (take_succ_at (at_dig hlt)) (take_succ_at (at_dig hltm)) (at_dig hlt) (at_dig hltm);generalize dig l j=x at *;generalize dig m j=y at *
    by_cases hxy:x=y
    ·subst hxy;go_wp2
     go_quiet (fail)
     go_wp2;go_roundw
     case rel=>exact ⟨j+1,hlt,by go_num,by unfold Hid;rw [TA.out,TB.out,HT.out],_,rfl⟩
     case measure=>simp [intOf];omega
    ·have hne:Hid (decide (l=m)=false):=by
      unfold Hid;rw [decide_eq_false_iff_not];rintro rfl;have h1:=GA.out.symm.trans GB.out;cases h1;exact hxy rfl
     have hxb:((x:Int)==(y:Int))=false:=by rw [beq_eq_false_iff_ne];omega
     go_wp2
     go_quiet (fail)
     go_wp2;go_ret;exact ⟨by rw [hne.out];rfl,by rw [World.drewN_drewN];exact HBn.out _⟩
   ·obtain rfl:j=l.length:=by omega
    have he2:Hid (decide (l=m)=true):=by
     have h1:=HT.out;rw [List.take_length,HE.out,List.take_length] at h1;unfold Hid;simp [h1]
    go_wp2;go_ret;exact ⟨by rw [he2.out];rfl,HBn.out _⟩
 ·have hne:Hid (decide (l=m)=false):=by
   unfold Hid;rw [decide_eq_false_iff_not];rintro rfl;exact he rfl
  go_wp2;go_ret;exact ⟨by rw [hne.out];rfl,Below.refl _ _⟩
def ratB (x y:RatL):Bool:=(x.neg==y.neg) && (decide (x.num=y.num) && decide (x.den=y.den))
theorem ratB_eq (x y:RatL):ratB x y=decide (x=y):=by
 unfold ratB;rw [Bool.eq_iff_iff];simp only [Bool.and_eq_true,beq_iff_eq,decide_eq_true_eq]
 constructor
 ·rintro ⟨h1,h2,h3⟩;cases x;cases y;simp only at h1 h2 h3;rw [h1,h2,h3]
 ·rintro rfl;exact ⟨rfl,rfl,rfl⟩
theorem mRatEq {w:World} {v u:Value} {x y:RatL} (hv:RatV w v x) (hu:RatV w u y):
  Calls Tryz.prog 164 #[v,u] w fun e w'=>e=.returned (.bool (decide (x=y)))/\Below w.heap.size w w':=by
 rw [<- ratB_eq];obtain ⟨an,ad,cn,cd,rfl,a2,a3,a4,a5⟩:=hv.ex;obtain ⟨bn,bd,dn,dd,rfl,b2,b3,b4,b5⟩:=hu.ex;have q1:=a4.len;have q2:=a5.len;have q3:=b4.len;have q4:=b5.len;obtain ⟨H4,H5,G4,G5⟩:=hd4 a4 a5 b4 b5;clear hv hu a4 a5 b4 b5
 go_enter Tryz.func164,Tryz.ntmps164
 go_upto_region 1 with fail
 have hbA:=blA w (ratO x an cn ad cd 51);have hx:=Box3.alloc w (.bool x.neg) (.slice an x.num.length cn) (.slice ad x.den.length cd) 51;generalize hW:w.alloc (ratO x an cn ad cd 51)=W at *;have hsz:W.heap.size=w.heap.size+1:=by rw [<- hW];simp
 have hbB:=blA W (ratO y bn dn bd dd 51);have hy:=Box3.alloc W (.bool y.neg) (.slice bn y.num.length dn) (.slice bd y.den.length dd) 51;rw [hsz] at hy;generalize W.alloc (ratO y bn dn bd dd 51)=V at *;obtain ⟨HX,HY,HB⟩:=hd3 (hx.below hbB) hy (hbA.trans (hbB.mono hbA.size));clear hx hy hbA hbB hW hsz;obtain ⟨x0,x1,x2,_,xlt⟩:=HX.out;obtain ⟨y0,y1,y2,_,ylt⟩:=HY.out
 cases e1:(x.neg==y.neg) with
 | false=>
  have HR:Hid (ratB x y=false):=by unfold Hid ratB;rw [e1];rfl
  go_wp2;go_ret;exact ⟨ret_bool HR.out.symm,HB.out⟩
 | true=>
  have HC:=hid (mEqNat cn dn (H4.out.below HB.out) (G4.out.below HB.out))
  cases e2:decide (x.num=y.num) with
  | false=>
   have HR:Hid (ratB x y=false):=by unfold Hid ratB;rw [e1,e2];rfl
   rw [e2] at HC;clear e2
   go_wp2_with fail
   refine HC.out.mono ?_
   rintro e w1 ⟨rfl,hb1⟩;have HB1:=htr HB hb1;clear hb1 x0 x1 x2 y0 y1 y2;go_wp2;go_ret;exact ⟨ret_bool HR.out.symm,HB1.out⟩
  | true=>
   have HR:Hid (ratB x y=decide (x.den=y.den)):=by unfold Hid ratB;rw [e1,e2];rfl
   rw [e2] at HC;clear e2
   go_wp2_with fail
   refine HC.out.mono ?_
   rintro e w1 ⟨rfl,hb1⟩;have HB1:=htr HB hb1;obtain ⟨z0,z1,z2,_,zlt⟩:=HX.out.below hb1;obtain ⟨t0,t1,t2,_,tlt⟩:=HY.out.below hb1;have HC2:=hid (mEqNat cd dd (H5.out.below HB1.out) (G5.out.below HB1.out));generalize decide (x.den=y.den)=R at *;clear hb1 x0 x1 x2 y0 y1 y2
   go_wp2_with fail
   refine HC2.out.mono ?_
   rintro e w2 ⟨rfl,hb2⟩;have HB2:=htr HB1 hb2;clear hb2 z0 z1 z2 t0 t1 t2;go_wp2;go_ret;exact ⟨ret_bool HR.out.symm,HB2.out⟩
theorem mEqualFunc {w:World} {a b:Option Addr} {L M:List RatL} (c d:Nat) (h:RatsAt w a L) (g:RatsAt w b M):
  Calls Tryz.prog 163 #[.slice a L.length c,.slice b M.length d,.func (.func 164) #[] #[]] w fun e w'=>e=.returned (.bool (decide (L=M)))/\Below w.heap.size w w':=by
 have hl:=h.len;have hm:=g.len;obtain ⟨HA,HG⟩:=hd2 h g;clear h g
 by_cases he:L.length=M.length
 ·have HE:=hid he;have hlb:decide (¬ (L.length:Int)=(M.length:Int))=false:=by simp;omega
  have hlc:((L.length:Int)==(M.length:Int))=true:=by simp;omega
  have hld:((L.length:Int) != (M.length:Int))=false:=by rw [he];simp
  have hge1:L.length<=M.length:=by omega
  have hge2:M.length<=L.length:=by omega
  go_enter Tryz.func163,Tryz.ntmps163
  clear he;go_wp2
  go_loopw [7,8,9,17] (fun _ _ _ i wr=>∃ j:Nat,j<=L.length/\i=.int .i64 (j:Int)/\Hid (L.take j=M.take j)/\Hid (Below w.heap.size w wr)) (fun _ _ _ i _=>L.length - (intOf i).toNat)
  case atStart=>exact ⟨0,Nat.zero_le _,rfl,by simp [Hid],Below.refl _ _⟩
  case round=>
   obtain ⟨j,hj,rfl,HT,HB⟩:=hrel
   by_cases hlt:j < L.length
   ·have hltm:j < M.length:=by omega
    obtain ⟨b1,o1,x,an,ad,cn,cd,rfl,hb1,hx,p0,p1,p2,hv⟩:=(HA.out.below HB.out).pick hlt;obtain ⟨b2,o2,y,bn,bd,dn,dd,rfl,hb2,hy,r0,r1,r2,hu⟩:=(HG.out.below HB.out).pick hltm;obtain ⟨HXx,HYy,TA,TB,HC⟩:=hd5 hx hy (take_succ_at hx) (take_succ_at hy) (fun wv (hb:Below wr.heap.size wr wv)=>mRatEq (hv.below hb) (hu.below hb));have hal:=blA wr (ratO x an cn ad cd 51);have hal2:=hal.trans (((Below.refl _ (wr.alloc (ratO x an cn ad cd 51))).alloc (Nat.le_refl _) (ratO y bn dn bd dd 51)).mono hal.size);have HAl:=hid hal2;clear hx hy hv hu hal hal2
    go_wp2_with fail
    refine (HC.out _ HAl.out).mono ?_
    rintro e w2 ⟨rfl,hw2⟩;have HB2:=hid (HB.out.trans ((HAl.out.trans (hw2.mono HAl.out.size)).mono HB.out.size));clear hw2 HAl HC p0 p1 p2 r0 r1 r2
    by_cases hxy:x=y
    ·have e1:decide (x=y)=true:=decide_eq_true hxy;have HXY:=hid hxy;clear hxy;go_wp2;go_roundw
     case rel=>exact ⟨j+1,hlt,by go_num,by unfold Hid;rw [TA.out,TB.out,HT.out,HXY.out],HB2.out⟩
     case measure=>simp [intOf];omega
    ·have e1:decide (x=y)=false:=decide_eq_false hxy;have hne:Hid (decide (L=M)=false):=by
      unfold Hid;rw [decide_eq_false_iff_not];rintro rfl;have h1:=HXx.out.symm.trans HYy.out;cases h1;exact hxy rfl
     clear hxy;go_wp2;go_ret;exact ⟨ret_bool hne.out.symm,HB2.out⟩
   ·obtain rfl:j=L.length:=by omega
    have he2:Hid (decide (L=M)=true):=by
     have h1:=HT.out;rw [List.take_length,HE.out,List.take_length] at h1;unfold Hid;simp [h1]
    go_wp2;go_ret;exact ⟨ret_bool he2.out.symm,HB.out⟩
 ·have hne:Hid (decide (L=M)=false):=by
   unfold Hid;rw [decide_eq_false_iff_not];rintro rfl;exact he rfl
  go_enter Tryz.func163,Tryz.ntmps163
  go_wp2;go_ret;exact ⟨ret_bool hne.out.symm,Below.refl _ _⟩
theorem mRats {w:World} {a b:Option Addr} {L M:List RatL} (c d:Nat) (h:RatsAt w a L) (g:RatsAt w b M):
  Calls Tryz.prog 148 #[.slice a L.length c,.slice b M.length d] w fun e w'=>e=.returned (.bool (decide (L=M)))/\Below w.heap.size w w':=by
 have HC:=hid (mEqualFunc c d h g);have hl:=h.len;have hm:=g.len;generalize decide (L=M)=R at *;clear h g
 go_enter Tryz.func148,Tryz.ntmps148
 go_wp2_with fail
 refine HC.out.mono ?_
 rintro e w2 ⟨rfl,hw2⟩;go_wp2;go_ret;exact ⟨rfl,hw2⟩
def sameB (l m:LayL):Bool:=(l.kind==m.kind) && ((l.frm==m.frm) && ((l.out==m.out) && ((l.kh==m.kh) && ((l.kw==m.kw) && ((l.stride==m.stride) && ((l.pad==m.pad) && (decide (l.weights=m.weights) && decide (l.bias=m.bias))))))))
theorem RatsAt.nil (w:World) (a:Option Addr):RatsAt w a []:=⟨by simp,.inl rfl⟩
structure FCell (w:World) (p f:Nat):Prop where
 cell:w.cell? ⟨p,0,none⟩=some (.func (.func f) #[] #[])
 lt:p < w.heap.size
theorem FCell.below {w w':World} {p f:Nat} (h:FCell w p f) (hb:Below w.heap.size w w'):FCell w' p f:=⟨(hb.cell h.lt).trans h.cell,Nat.lt_of_lt_of_le h.lt hb.size⟩
theorem mSame {w:World} {v u:Value} {l m:LayL} (hv:LayV w v l) (hu:LayV w u m):
  Calls Tryz.prog 112 #[v,u] w fun e w'=>e=.returned (.bool (sameB l m))/\Below w.heap.size w w':=by
 obtain ⟨a1,a2,c1,c2,rfl,r1,r2⟩:=hv.ex;obtain ⟨b1,b2,d1,d2,rfl,s1,s2⟩:=hu.ex;have q1:=r1.len;have q2:=r2.len;have q3:=s1.len;have q4:=s2.len;obtain ⟨R1,R2,S1,S2⟩:=hd4 r1 r2 s1 s2;clear hv hu r1 r2 s1 s2
 go_enter Tryz.func112,Tryz.ntmps112
 go_upto_region 1 with fail
 have hbA:=blA w (.cells #[.int .i64 l.kind,.int .i64 l.frm,.int .i64 l.out,.int .i64 l.kh,.int .i64 l.kw,.int .i64 l.stride,.int .i64 l.pad,.slice a1 l.weights.length c1,.slice a2 l.bias.length c2] 44);have hx:=Box9.alloc w (.int .i64 l.kind) (.int .i64 l.frm) (.int .i64 l.out) (.int .i64 l.kh) (.int .i64 l.kw) (.int .i64 l.stride) (.int .i64 l.pad) (.slice a1 l.weights.length c1) (.slice a2 l.bias.length c2) 44;generalize hW:w.alloc (.cells #[.int .i64 l.kind,.int .i64 l.frm,.int .i64 l.out,.int .i64 l.kh,.int .i64 l.kw,.int .i64 l.stride,.int .i64 l.pad,.slice a1 l.weights.length c1,.slice a2 l.bias.length c2] 44)=W at *;have hsz:W.heap.size=w.heap.size+1:=by rw [<- hW];simp
 have hbB:=blA W (.cells #[.int .i64 m.kind,.int .i64 m.frm,.int .i64 m.out,.int .i64 m.kh,.int .i64 m.kw,.int .i64 m.stride,.int .i64 m.pad,.slice b1 m.weights.length d1,.slice b2 m.bias.length d2] 44);have hy:=Box9.alloc W (.int .i64 m.kind) (.int .i64 m.frm) (.int .i64 m.out) (.int .i64 m.kh) (.int .i64 m.kw) (.int .i64 m.stride) (.int .i64 m.pad) (.slice b1 m.weights.length d1) (.slice b2 m.bias.length d2) 44;rw [hsz] at hy;generalize W.alloc (.cells #[.int .i64 m.kind,.int .i64 m.frm,.int .i64 m.out,.int .i64 m.kh,.int .i64 m.kw,.int .i64 m.stride,.int .i64 m.pad,.slice b1 m.weights.length d1,.slice b2 m.bias.length d2] 44)=V at *;obtain ⟨HX,HY,HB⟩:=hd3 (hx.below hbB) hy (hbA.trans (hbB.mono hbA.size));clear hx hy hbA hbB hW hsz;obtain ⟨x0,x1,x2,x3,x4,x5,x6,x7,x8,xlt⟩:=HX.out;obtain ⟨y0,y1,y2,y3,y4,y5,y6,y7,y8,ylt⟩:=HY.out
 cases e1:(l.kind==m.kind) with
 | false=>
  have HR:Hid (sameB l m=false):=by unfold Hid sameB;rw [e1];rfl
  go_wp2;go_ret;exact ⟨ret_bool HR.out.symm,HB.out⟩
 | true=>
  cases e2:(l.frm==m.frm) with
  | false=>
   have HR:Hid (sameB l m=false):=by unfold Hid sameB;rw [e1,e2];rfl
   go_wp2;go_ret;exact ⟨ret_bool HR.out.symm,HB.out⟩
  | true=>
   cases e3:(l.out==m.out) with
   | false=>
    have HR:Hid (sameB l m=false):=by unfold Hid sameB;rw [e1,e2,e3];rfl
    go_wp2;go_ret;exact ⟨ret_bool HR.out.symm,HB.out⟩
   | true=>
    cases e4:(l.kh==m.kh) with
    | false=>
     have HR:Hid (sameB l m=false):=by unfold Hid sameB;rw [e1,e2,e3,e4];rfl
     go_wp2;go_ret;exact ⟨ret_bool HR.out.symm,HB.out⟩
    | true=>
     cases e5:(l.kw==m.kw) with
     | false=>
      have HR:Hid (sameB l m=false):=by unfold Hid sameB;rw [e1,e2,e3,e4,e5];rfl
      go_wp2;go_ret;exact ⟨ret_bool HR.out.symm,HB.out⟩
     | true=>
      cases e6:(l.stride==m.stride) with
      | false=>
       have HR:Hid (sameB l m=false):=by unfold Hid sameB;rw [e1,e2,e3,e4,e5,e6];rfl
       go_wp2;go_ret;exact ⟨ret_bool HR.out.symm,HB.out⟩
      | true=>
       cases e7:(l.pad==m.pad) with
       | false=>
        have HR:Hid (sameB l m=false):=by unfold Hid sameB;rw [e1,e2,e3,e4,e5,e6,e7];rfl
        go_wp2;go_ret;exact ⟨ret_bool HR.out.symm,HB.out⟩
       | true=>
        have HR0:Hid (sameB l m=(decide (l.weights=m.weights) && decide (l.bias=m.bias))):=by unfold Hid sameB;rw [e1,e2,e3,e4,e5,e6,e7];rfl
        have HC:=hid (mRats c1 d1 (R1.out.below HB.out) (S1.out.below HB.out))
        cases e8:decide (l.weights=m.weights) with
        | false=>
         have HR:Hid (sameB l m=false):=by unfold Hid;rw [HR0.out,e8];rfl
         rw [e8] at HC;clear e8
         go_wp2_with fail
         refine HC.out.mono ?_
         rintro e w1 ⟨rfl,hb1⟩;have HB1:=htr HB hb1;clear hb1 x0 x1 x2 x3 x4 x5 x6 x7 x8 y0 y1 y2 y3 y4 y5 y6 y7 y8;go_wp2;go_ret;exact ⟨ret_bool HR.out.symm,HB1.out⟩
        | true=>
         have HR:Hid (sameB l m=decide (l.bias=m.bias)):=by unfold Hid;rw [HR0.out,e8];rfl
         rw [e8] at HC;clear e8
         go_wp2_with fail
         refine HC.out.mono ?_
         rintro e w1 ⟨rfl,hb1⟩;have HB1:=htr HB hb1;clear x0 x1 x2 x3 x4 x5 x6 x7 x8 y0 y1 y2 y3 y4 y5 y6 y7 y8;obtain ⟨x0,x1,x2,x3,x4,x5,x6,x7,x8,xlt⟩:=HX.out.below hb1;obtain ⟨y0,y1,y2,y3,y4,y5,y6,y7,y8,ylt⟩:=HY.out.below hb1;have HC2:=hid (mRats c2 d2 (R2.out.below HB1.out) (S2.out.below HB1.out));generalize decide (l.bias=m.bias)=R at *;clear hb1
         go_wp2_with fail
         refine HC2.out.mono ?_
         rintro e w2 ⟨rfl,hb2⟩;have HB2:=htr HB1 hb2;clear hb2 x0 x1 x2 x3 x4 x5 x6 x7 x8 y0 y1 y2 y3 y4 y5 y6 y7 y8;go_wp2;go_ret;exact ⟨ret_bool HR.out.symm,HB2.out⟩
theorem mOnly {w:World} {v u:Value} {l m:LayL} (hv:LayV w v l) (hu:LayV w u m):
  Calls Tryz.prog 111 #[v,u] w fun e w'=>e=.returned (.bool (sameB l ⟨l.kind,m.frm,m.out,m.kh,m.kw,m.stride,m.pad,m.weights,m.bias⟩))/\Below w.heap.size w w':=by
 obtain ⟨a1,a2,c1,c2,rfl,r1,r2⟩:=hv.ex;obtain ⟨b1,b2,d1,d2,rfl,s1,s2⟩:=hu.ex;have q1:=r1.len;have q2:=r2.len;have q3:=s1.len;have q4:=s2.len;have hb:Below w.heap.size w ((w.alloc (.cells #[.int .i64 l.kind,.int .i64 l.frm,.int .i64 l.out,.int .i64 l.kh,.int .i64 l.kw,.int .i64 l.stride,.int .i64 l.pad,.slice a1 l.weights.length c1,.slice a2 l.bias.length c2] 44)).alloc (.cells #[.int .i64 l.kind,.int .i64 m.frm,.int .i64 m.out,.int .i64 m.kh,.int .i64 m.kw,.int .i64 m.stride,.int .i64 m.pad,.slice b1 m.weights.length d1,.slice b2 m.bias.length d2] 44)):=((Below.refl _ _).alloc (Nat.le_refl _) _).alloc (by simp) _;obtain ⟨HB,HC⟩:=hd2 hb (mSame (w:=(w.alloc (.cells #[.int .i64 l.kind,.int .i64 l.frm,.int .i64 l.out,.int .i64 l.kh,.int .i64 l.kw,.int .i64 l.stride,.int .i64 l.pad,.slice a1 l.weights.length c1,.slice a2 l.bias.length c2] 44)).alloc (.cells #[.int .i64 l.kind,.int .i64 m.frm,.int .i64 m.out,.int .i64 m.kh,.int .i64 m.kw,.int .i64 m.stride,.int .i64 m.pad,.slice b1 m.weights.length d1,.slice b2 m.bias.length d2] 44)) (l:=l) (m:=⟨l.kind,m.frm,m.out,m.kh,m.kw,m.stride,m.pad,m.weights,m.bias⟩) ⟨a1,a2,c1,c2,rfl,r1.below hb,r2.below hb⟩ ⟨b1,b2,d1,d2,rfl,s1.below hb,s2.below hb⟩);clear hv hu r1 r2 s1 s2 hb
 go_enter Tryz.func111,Tryz.ntmps111
 go_wp2_with fail
 refine HC.out.mono ?_
 rintro e w1 ⟨rfl,hb1⟩;have HB1:=htr HB hb1;clear hb1 HC HB;go_wp2;go_ret;exact ⟨rfl,HB1.out⟩
theorem mOut {w:World} {v:Value} {l:LayL} (hv:LayV w v l):Calls Tryz.prog 110 #[v] w fun e w'=>e=.returned (.bool (outB l))/\Below w.heap.size w w':=by
 obtain ⟨a1,a2,c1,c2,rfl,r1,r2⟩:=hv.ex;have hb:=blA w (.cells #[.int .i64 l.kind,.int .i64 l.frm,.int .i64 l.out,.int .i64 l.kh,.int .i64 l.kw,.int .i64 l.stride,.int .i64 l.pad,.slice a1 l.weights.length c1,.slice a2 l.bias.length c2] 44);have HB:=hid hb;generalize hR:outB l=R;unfold outB at hR;generalize l.out=n at *;clear hv r1 r2 hb
 by_cases h1:1<=n
 ·by_cases h2:n<=16384
  ·rw [decide_eq_true h1,decide_eq_true h2] at hR;have HR:=hid hR;clear hR
   go_enter Tryz.func110,Tryz.ntmps110
   go_wp2;go_ret;exact ⟨ret_bool HR.out,HB.out⟩
  ·rw [decide_eq_true h1,decide_eq_false h2] at hR;have HR:=hid hR;clear hR
   go_enter Tryz.func110,Tryz.ntmps110
   go_wp2;go_ret;exact ⟨ret_bool HR.out,HB.out⟩
 ·rw [decide_eq_false h1] at hR;have HR:=hid hR;clear hR
  go_enter Tryz.func110,Tryz.ntmps110
  go_wp2;go_ret;exact ⟨ret_bool HR.out,HB.out⟩
theorem mKernel {w:World} {v:Value} {l:LayL} (hv:LayV w v l):Calls Tryz.prog 114 #[v] w fun e w'=>e=.returned (.bool (kerB l))/\Below w.heap.size w w':=by
 obtain ⟨a1,a2,c1,c2,rfl,r1,r2⟩:=hv.ex;have hb:=blA w (.cells #[.int .i64 l.kind,.int .i64 l.frm,.int .i64 l.out,.int .i64 l.kh,.int .i64 l.kw,.int .i64 l.stride,.int .i64 l.pad,.slice a1 l.weights.length c1,.slice a2 l.bias.length c2] 44);have HB:=hid hb;generalize hR:kerB l=R;unfold kerB at hR;obtain ⟨C1,C2,C3⟩:=hd3 (fun W=>mSide l.kh W) (fun W=>mSide l.kw W) (fun W=>mSide l.stride W);clear hv r1 r2 hb
 cases e1:sidB l.kh with
 | false=>
  rw [e1] at hR C1;have HR:=hid hR;clear hR e1
  go_enter Tryz.func114,Tryz.ntmps114
  go_wp2_with (first | (go_at_call 149;(with_reducible refine (C1.out _).mono ?_);rintro e w' ⟨rfl,rfl⟩))
  go_ret;exact ⟨ret_bool HR.out,HB.out⟩
 | true=>
  rw [e1] at hR C1
  cases e2:sidB l.kw with
  | false=>
   rw [e2] at hR C2;have HR:=hid hR;clear hR e1 e2
   go_enter Tryz.func114,Tryz.ntmps114
   go_wp2_with fail
   refine (C1.out _).mono ?_
   rintro e w' ⟨rfl,rfl⟩
   go_wp2_with fail
   refine (C2.out _).mono ?_
   rintro e w' ⟨rfl,rfl⟩;go_wp2;go_ret;exact ⟨ret_bool HR.out,HB.out⟩
  | true=>
   rw [e2] at hR C2;generalize sidB l.stride=z at *;have HR:=hid hR;clear hR e1 e2
   go_enter Tryz.func114,Tryz.ntmps114
   go_wp2_with fail
   refine (C1.out _).mono ?_
   rintro e w' ⟨rfl,rfl⟩
   go_wp2_with fail
   refine (C2.out _).mono ?_
   rintro e w' ⟨rfl,rfl⟩
   go_wp2_with fail
   refine (C3.out _).mono ?_
   rintro e w' ⟨rfl,rfl⟩;go_wp2;go_ret;exact ⟨ret_bool HR.out,HB.out⟩
theorem mWeights {w:World} {v:Value} {l:LayL} (hv:LayV w v l) (n:Int) (h1:1<=n) (h2:n<=1000000000):Calls Tryz.prog 117 #[v,.int .i64 n] w fun e w'=>e=.returned (.bool (wgtB l n))/\Below w.heap.size w w':=by
 obtain ⟨a1,a2,c1,c2,rfl,r1,r2⟩:=hv.ex;have hb:=blA w (.cells #[.int .i64 l.kind,.int .i64 l.frm,.int .i64 l.out,.int .i64 l.kh,.int .i64 l.kw,.int .i64 l.stride,.int .i64 l.pad,.slice a1 l.weights.length c1,.slice a2 l.bias.length c2] 44);have HB:=hid hb;have q1:=r1.len;have q2:=r2.len;generalize hR:wgtB l n=R;unfold wgtB at hR;clear hv r1 r2 hb
 by_cases e1:(l.bias.length:Int)=l.out
 ·have t1:((l.bias.length:Int)==l.out)=true:=by rw [beq_iff_eq];exact e1
  rw [decide_eq_true e1] at hR;clear e1
  by_cases e2:0 < l.weights.length
  ·by_cases e3:l.weights.length<=16384
   ·rw [decide_eq_true e2,decide_eq_true e3] at hR
    by_cases e4:(l.weights.length:Int) % n=0
    ·have t4:((l.weights.length:Int) % n==0)=true:=by rw [beq_iff_eq];exact e4
     rw [decide_eq_true e4] at hR;have HR:=hid hR;clear hR e4
     go_enter Tryz.func117,Tryz.ntmps117
     go_wp2;go_ret;exact ⟨ret_bool HR.out,HB.out⟩
    ·have t4:((l.weights.length:Int) % n==0)=false:=by rw [beq_eq_false_iff_ne];exact e4
     rw [decide_eq_false e4] at hR;have HR:=hid hR;clear hR e4
     go_enter Tryz.func117,Tryz.ntmps117
     go_wp2;go_ret;exact ⟨ret_bool HR.out,HB.out⟩
   ·rw [decide_eq_true e2,decide_eq_false e3] at hR;have HR:=hid hR;clear hR
    go_enter Tryz.func117,Tryz.ntmps117
    go_wp2;go_ret;exact ⟨ret_bool HR.out,HB.out⟩
  ·rw [decide_eq_false e2] at hR;have HR:=hid hR;clear hR
   go_enter Tryz.func117,Tryz.ntmps117
   go_wp2;go_ret;exact ⟨ret_bool HR.out,HB.out⟩
 ·have t1:((l.bias.length:Int)==l.out)=false:=by rw [beq_eq_false_iff_ne];exact e1
  rw [decide_eq_false e1] at hR;have HR:=hid hR;clear hR e1
  go_enter Tryz.func117,Tryz.ntmps117
  go_wp2;go_ret;exact ⟨ret_bool HR.out,HB.out⟩
theorem mBare {w:World} {v:Value} {l:LayL} (hv:LayV w v l) (i:Int) {p:Nat} (hpp:FCell w p 111):
  Calls Tryz.prog 115 #[v,.int .i64 i,.pointer (some ⟨p,0,none⟩)] w fun e w'=>e=.returned (.bool (sameB l ⟨l.kind,0,0,0,0,0,0,[],[]⟩))/\Below w.heap.size w w':=by
 obtain ⟨a1,a2,c1,c2,rfl,r1,r2⟩:=hv.ex;have HV:=hid hv;have q1:=r1.len;have q2:=r2.len;obtain ⟨R1,R2⟩:=hd2 r1 r2;generalize hRr:(sameB l ⟨l.kind,0,0,0,0,0,0,[],[]⟩)=RR;obtain ⟨HRd,HPp⟩:=hd2 hRr hpp;clear hRr hv r1 r2 hpp
 go_enter Tryz.func115,Tryz.ntmps115
 go_upto_region 1 with fail
 have hb0:=blA w (layO l a1 c1 a2 c2 44);have hx:=Box9.alloc w (.int .i64 l.kind) (.int .i64 l.frm) (.int .i64 l.out) (.int .i64 l.kh) (.int .i64 l.kw) (.int .i64 l.stride) (.int .i64 l.pad) (.slice a1 l.weights.length c1) (.slice a2 l.bias.length c2) 44;generalize w.alloc (layO l a1 c1 a2 c2 44)=W at *;obtain ⟨HB,HX,HW0⟩:=hd3 hb0 hx (Below.refl W.heap.size W);clear hx hb0;obtain ⟨x0,x1,x2,x3,x4,x5,x6,x7,x8,xlt⟩:=HX.out;obtain ⟨pp,lp⟩:=HPp.out.below HB.out;have HR:Hid (sameB l ⟨l.kind,0,0,0,0,0,0,[],[]⟩=RR):=HRd.out;have HCo:=hid (mOnly (m:=⟨0,0,0,0,0,0,0,[],[]⟩) ((HV.out.below HB.out).below HW0.out) (u:=.agg #[.int .i64 0,.int .i64 0,.int .i64 0,.int .i64 0,.int .i64 0,.int .i64 0,.int .i64 0,.slice none 0 0,.slice none 0 0]) ⟨none,none,0,0,rfl,RatsAt.nil _ _,RatsAt.nil _ _⟩);generalize sameB l ⟨l.kind,0,0,0,0,0,0,[],[]⟩=R at *
 go_wp2_with fail
 refine HCo.out.mono ?_
 rintro e w1 ⟨rfl,hb1⟩;have HW1:=htr HW0 hb1;clear hb1 x0 x1 x2 x3 x4 x5 x6 x7 x8 pp lp;obtain ⟨x0,x1,x2,x3,x4,x5,x6,x7,x8,xlt1⟩:=HX.out.below HW1.out;obtain ⟨pp,lp⟩:=(HPp.out.below HB.out).below HW1.out;go_wp2;go_ret;exact ⟨ret_bool HR.out,HB.out.trans (HW1.out.mono HB.out.size)⟩
theorem mPool {w:World} {v:Value} {l:LayL} (hv:LayV w v l) (i:Int) {p:Nat} (hpp:FCell w p 111):
  Calls Tryz.prog 113 #[v,.int .i64 i,.pointer (some ⟨p,0,none⟩)] w fun e w'=>e=.returned (.bool (kerB l && sameB l ⟨l.kind,0,0,l.kh,l.kw,l.stride,0,[],[]⟩))/\Below w.heap.size w w':=by
 obtain ⟨a1,a2,c1,c2,rfl,r1,r2⟩:=hv.ex;have HV:=hid hv;have q1:=r1.len;have q2:=r2.len;obtain ⟨R1,R2⟩:=hd2 r1 r2;generalize hRr:(kerB l && sameB l ⟨l.kind,0,0,l.kh,l.kw,l.stride,0,[],[]⟩)=RR;obtain ⟨HRd,HPp⟩:=hd2 hRr hpp;clear hRr hv r1 r2 hpp
 go_enter Tryz.func113,Tryz.ntmps113
 go_upto_region 1 with fail
 have hb0:=blA w (layO l a1 c1 a2 c2 44);have hx:=Box9.alloc w (.int .i64 l.kind) (.int .i64 l.frm) (.int .i64 l.out) (.int .i64 l.kh) (.int .i64 l.kw) (.int .i64 l.stride) (.int .i64 l.pad) (.slice a1 l.weights.length c1) (.slice a2 l.bias.length c2) 44;generalize w.alloc (layO l a1 c1 a2 c2 44)=W at *;obtain ⟨HB,HX,HW0⟩:=hd3 hb0 hx (Below.refl W.heap.size W);clear hx hb0;obtain ⟨x0,x1,x2,x3,x4,x5,x6,x7,x8,xlt⟩:=HX.out;obtain ⟨pp,lp⟩:=HPp.out.below HB.out;have HC:=hid (mKernel ((HV.out.below HB.out).below HW0.out))
 cases e1:kerB l with
 | false=>
  have HR:Hid (false=RR):=by unfold Hid;rw [<- HRd.out,e1];rfl
  rw [e1] at HC;clear e1
  go_wp2_with fail
  refine HC.out.mono ?_
  rintro e w1 ⟨rfl,hb1⟩;have HW1:=htr HW0 hb1;clear hb1 x0 x1 x2 x3 x4 x5 x6 x7 x8 pp lp;obtain ⟨x0,x1,x2,x3,x4,x5,x6,x7,x8,xlt1⟩:=HX.out.below HW1.out;obtain ⟨pp,lp⟩:=(HPp.out.below HB.out).below HW1.out;go_wp2;go_ret;exact ⟨ret_bool HR.out,HB.out.trans (HW1.out.mono HB.out.size)⟩
 | true=>
  have HR:Hid (sameB l ⟨l.kind,0,0,l.kh,l.kw,l.stride,0,[],[]⟩=RR):=by unfold Hid;rw [<- HRd.out,e1];rfl
  rw [e1] at HC;clear e1
  go_wp2_with fail
  refine HC.out.mono ?_
  rintro e w1 ⟨rfl,hb1⟩;have HW1:=htr HW0 hb1;clear hb1 x0 x1 x2 x3 x4 x5 x6 x7 x8 pp lp;obtain ⟨x0,x1,x2,x3,x4,x5,x6,x7,x8,xlt1⟩:=HX.out.below HW1.out;obtain ⟨pp,lp⟩:=(HPp.out.below HB.out).below HW1.out;have HCo:=hid (mOnly (m:=⟨0,0,0,l.kh,l.kw,l.stride,0,[],[]⟩) ((HV.out.below HB.out).below HW1.out) (u:=.agg #[.int .i64 0,.int .i64 0,.int .i64 0,.int .i64 l.kh,.int .i64 l.kw,.int .i64 l.stride,.int .i64 0,.slice none 0 0,.slice none 0 0]) ⟨none,none,0,0,rfl,RatsAt.nil _ _,RatsAt.nil _ _⟩);generalize sameB l ⟨l.kind,0,0,l.kh,l.kw,l.stride,0,[],[]⟩=R at *
  go_wp2_with fail
  refine HCo.out.mono ?_
  rintro e w2 ⟨rfl,hb2⟩;have HW2:=htr HW1 hb2;clear hb2 x0 x1 x2 x3 x4 x5 x6 x7 x8 pp lp;obtain ⟨x0,x1,x2,x3,x4,x5,x6,x7,x8,xlt2⟩:=HX.out.below HW2.out;obtain ⟨pp,lp⟩:=(HPp.out.below HB.out).below HW2.out;go_wp2;go_ret;exact ⟨ret_bool HR.out,HB.out.trans (HW2.out.mono HB.out.size)⟩
theorem mAdd {w:World} {v:Value} {l:LayL} (hv:LayV w v l) (i:Int) {p:Nat} (hpp:FCell w p 111):
  Calls Tryz.prog 119 #[v,.int .i64 i,.pointer (some ⟨p,0,none⟩)] w fun e w'=>e=.returned (.bool (decide (-1<=l.frm) && (decide (l.frm < i) && sameB l ⟨l.kind,l.frm,0,0,0,0,0,[],[]⟩)))/\Below w.heap.size w w':=by
 obtain ⟨a1,a2,c1,c2,rfl,r1,r2⟩:=hv.ex;have HV:=hid hv;have q1:=r1.len;have q2:=r2.len;obtain ⟨R1,R2⟩:=hd2 r1 r2;generalize hRr:(decide (-1<=l.frm) && (decide (l.frm < i) && sameB l ⟨l.kind,l.frm,0,0,0,0,0,[],[]⟩))=RR;obtain ⟨HRd,HPp⟩:=hd2 hRr hpp;clear hRr hv r1 r2 hpp
 go_enter Tryz.func119,Tryz.ntmps119
 go_upto_region 1 with fail
 have hb0:=blA w (layO l a1 c1 a2 c2 44);have hx:=Box9.alloc w (.int .i64 l.kind) (.int .i64 l.frm) (.int .i64 l.out) (.int .i64 l.kh) (.int .i64 l.kw) (.int .i64 l.stride) (.int .i64 l.pad) (.slice a1 l.weights.length c1) (.slice a2 l.bias.length c2) 44;generalize w.alloc (layO l a1 c1 a2 c2 44)=W at *;obtain ⟨HB,HX,HW0⟩:=hd3 hb0 hx (Below.refl W.heap.size W);clear hx hb0;obtain ⟨x0,x1,x2,x3,x4,x5,x6,x7,x8,xlt⟩:=HX.out;obtain ⟨pp,lp⟩:=HPp.out.below HB.out
 by_cases e1: -1<=l.frm
 ·by_cases e2:l.frm < i
  ·have HR:Hid (sameB l ⟨l.kind,l.frm,0,0,0,0,0,[],[]⟩=RR):=by unfold Hid;rw [<- HRd.out,decide_eq_true e1,decide_eq_true e2];rfl
   have HCo:=hid (mOnly (m:=⟨0,l.frm,0,0,0,0,0,[],[]⟩) ((HV.out.below HB.out).below HW0.out) (u:=.agg #[.int .i64 0,.int .i64 l.frm,.int .i64 0,.int .i64 0,.int .i64 0,.int .i64 0,.int .i64 0,.slice none 0 0,.slice none 0 0]) ⟨none,none,0,0,rfl,RatsAt.nil _ _,RatsAt.nil _ _⟩);generalize sameB l ⟨l.kind,l.frm,0,0,0,0,0,[],[]⟩=R at *
   go_wp2_with fail
   refine HCo.out.mono ?_
   rintro e w1 ⟨rfl,hb1⟩;have HW1:=htr HW0 hb1;clear hb1 x0 x1 x2 x3 x4 x5 x6 x7 x8 pp lp;obtain ⟨x0,x1,x2,x3,x4,x5,x6,x7,x8,xlt1⟩:=HX.out.below HW1.out;obtain ⟨pp,lp⟩:=(HPp.out.below HB.out).below HW1.out;go_wp2;go_ret;exact ⟨ret_bool HR.out,HB.out.trans (HW1.out.mono HB.out.size)⟩
  ·have HR:Hid (false=RR):=by unfold Hid;rw [<- HRd.out,decide_eq_true e1,decide_eq_false e2];rfl
   go_wp2;go_ret;exact ⟨ret_bool HR.out,HB.out.trans (HW0.out.mono HB.out.size)⟩
 ·have HR:Hid (false=RR):=by unfold Hid;rw [<- HRd.out,decide_eq_false e1];rfl
  go_wp2;go_ret;exact ⟨ret_bool HR.out,HB.out.trans (HW0.out.mono HB.out.size)⟩
theorem mDense {w:World} {v:Value} {l:LayL} (hv:LayV w v l) (i:Int) {po pn:Nat} (hppo:FCell w po 110) (hppn:FCell w pn 111):
  Calls Tryz.prog 116 #[v,.int .i64 i,.pointer (some ⟨po,0,none⟩),.pointer (some ⟨pn,0,none⟩)] w fun e w'=>e=.returned (.bool (outB l && (wgtB l l.out && sameB l ⟨l.kind,0,l.out,0,0,0,0,l.weights,l.bias⟩)))/\Below w.heap.size w w':=by
 obtain ⟨a1,a2,c1,c2,rfl,r1,r2⟩:=hv.ex;have HV:=hid hv;have q1:=r1.len;have q2:=r2.len;obtain ⟨R1,R2⟩:=hd2 r1 r2;generalize hRr:(outB l && (wgtB l l.out && sameB l ⟨l.kind,0,l.out,0,0,0,0,l.weights,l.bias⟩))=RR;obtain ⟨HRd,HPpo,HPpn⟩:=hd3 hRr hppo hppn;clear hRr hv r1 r2 hppo hppn
 go_enter Tryz.func116,Tryz.ntmps116
 go_upto_region 1 with fail
 have hb0:=blA w (layO l a1 c1 a2 c2 44);have hx:=Box9.alloc w (.int .i64 l.kind) (.int .i64 l.frm) (.int .i64 l.out) (.int .i64 l.kh) (.int .i64 l.kw) (.int .i64 l.stride) (.int .i64 l.pad) (.slice a1 l.weights.length c1) (.slice a2 l.bias.length c2) 44;generalize w.alloc (layO l a1 c1 a2 c2 44)=W at *;obtain ⟨HB,HX,HW0⟩:=hd3 hb0 hx (Below.refl W.heap.size W);clear hx hb0;obtain ⟨x0,x1,x2,x3,x4,x5,x6,x7,x8,xlt⟩:=HX.out;obtain ⟨ppo,lpo⟩:=HPpo.out.below HB.out;obtain ⟨ppn,lpn⟩:=HPpn.out.below HB.out;have HC:=hid (mOut ((HV.out.below HB.out).below HW0.out))
 cases e1:outB l with
 | false=>
  have HR:Hid (false=RR):=by unfold Hid;rw [<- HRd.out,e1];rfl
  rw [e1] at HC;clear e1
  go_wp2_with fail
  refine HC.out.mono ?_
  rintro e w1 ⟨rfl,hb1⟩;have HW1:=htr HW0 hb1;clear hb1 x0 x1 x2 x3 x4 x5 x6 x7 x8 ppo lpo ppn lpn;obtain ⟨x0,x1,x2,x3,x4,x5,x6,x7,x8,xlt1⟩:=HX.out.below HW1.out;obtain ⟨ppo,lpo⟩:=(HPpo.out.below HB.out).below HW1.out;obtain ⟨ppn,lpn⟩:=(HPpn.out.below HB.out).below HW1.out;go_wp2;go_ret;exact ⟨ret_bool HR.out,HB.out.trans (HW1.out.mono HB.out.size)⟩
 | true=>
  rw [e1] at HC;have HE1:=hid e1;obtain ⟨o1,o2⟩:1<=l.out/\l.out<=16384:=by unfold outB at e1;simpa using e1
  clear e1
  go_wp2_with fail
  refine HC.out.mono ?_
  rintro e w1 ⟨rfl,hb1⟩;have HW1:=htr HW0 hb1;clear hb1 x0 x1 x2 x3 x4 x5 x6 x7 x8 ppo lpo ppn lpn;obtain ⟨x0,x1,x2,x3,x4,x5,x6,x7,x8,xlt1⟩:=HX.out.below HW1.out;obtain ⟨ppo,lpo⟩:=(HPpo.out.below HB.out).below HW1.out;obtain ⟨ppn,lpn⟩:=(HPpn.out.below HB.out).below HW1.out;have HC2:=hid (mWeights ((HV.out.below HB.out).below HW1.out) l.out o1 (by omega))
  cases e2:wgtB l l.out with
  | false=>
   have HR:Hid (false=RR):=by unfold Hid;rw [<- HRd.out,HE1.out,e2];rfl
   rw [e2] at HC2;clear e2
   go_wp2_with fail
   refine HC2.out.mono ?_
   rintro e w2 ⟨rfl,hb2⟩;have HW2:=htr HW1 hb2;clear hb2 x0 x1 x2 x3 x4 x5 x6 x7 x8 ppo lpo ppn lpn;obtain ⟨x0,x1,x2,x3,x4,x5,x6,x7,x8,xlt2⟩:=HX.out.below HW2.out;obtain ⟨ppo,lpo⟩:=(HPpo.out.below HB.out).below HW2.out;obtain ⟨ppn,lpn⟩:=(HPpn.out.below HB.out).below HW2.out;go_wp2;go_ret;exact ⟨ret_bool HR.out,HB.out.trans (HW2.out.mono HB.out.size)⟩
  | true=>
   have HR:Hid (sameB l ⟨l.kind,0,l.out,0,0,0,0,l.weights,l.bias⟩=RR):=by unfold Hid;rw [<- HRd.out,HE1.out,e2];rfl
   rw [e2] at HC2;clear e2
   go_wp2_with fail
   refine HC2.out.mono ?_
   rintro e w2 ⟨rfl,hb2⟩;have HW2:=htr HW1 hb2;clear hb2 x0 x1 x2 x3 x4 x5 x6 x7 x8 ppo lpo ppn lpn;obtain ⟨x0,x1,x2,x3,x4,x5,x6,x7,x8,xlt2⟩:=HX.out.below HW2.out;obtain ⟨ppo,lpo⟩:=(HPpo.out.below HB.out).below HW2.out;obtain ⟨ppn,lpn⟩:=(HPpn.out.below HB.out).below HW2.out;have HCo:=hid (mOnly (m:=⟨0,0,l.out,0,0,0,0,l.weights,l.bias⟩) ((HV.out.below HB.out).below HW2.out) (u:=.agg #[.int .i64 0,.int .i64 0,.int .i64 l.out,.int .i64 0,.int .i64 0,.int .i64 0,.int .i64 0,.slice a1 l.weights.length c1,.slice a2 l.bias.length c2]) ⟨a1,a2,c1,c2,rfl,(R1.out.below HB.out).below HW2.out,(R2.out.below HB.out).below HW2.out⟩);generalize sameB l ⟨l.kind,0,l.out,0,0,0,0,l.weights,l.bias⟩=R at *
   go_wp2_with fail
   refine HCo.out.mono ?_
   rintro e w3 ⟨rfl,hb3⟩;have HW3:=htr HW2 hb3;clear hb3 x0 x1 x2 x3 x4 x5 x6 x7 x8 ppo lpo ppn lpn;obtain ⟨x0,x1,x2,x3,x4,x5,x6,x7,x8,xlt3⟩:=HX.out.below HW3.out;obtain ⟨ppo,lpo⟩:=(HPpo.out.below HB.out).below HW3.out;obtain ⟨ppn,lpn⟩:=(HPpn.out.below HB.out).below HW3.out;go_wp2;go_ret;exact ⟨ret_bool HR.out,HB.out.trans (HW3.out.mono HB.out.size)⟩
theorem conv_bd {a b c:Int} (a1:1<=a) (a2:a<=16384) (b1:1<=b) (b2:b<=64) (c1:1<=c) (c2:c<=64):(1<=a * b/\a * b<=1048576)/\1<=a * b * c/\a * b * c<=67108864:=by
 have h1:1 * 1<=a * b:=Int.mul_le_mul a1 b1 (by omega) (by omega);have h2:a * b<=16384 * 64:=Int.mul_le_mul a2 b2 (by omega) (by omega);have h3:1 * 1<=a * b * c:=Int.mul_le_mul (by omega) c1 (by omega) (by omega);have h4:a * b * c<=1048576 * 64:=Int.mul_le_mul (by omega) c2 (by omega) (by omega);omega
theorem mConv {w:World} {v:Value} {l:LayL} (hv:LayV w v l) (i:Int) {po pn:Nat} (hppo:FCell w po 110) (hppn:FCell w pn 111):
  Calls Tryz.prog 118 #[v,.int .i64 i,.pointer (some ⟨po,0,none⟩),.pointer (some ⟨pn,0,none⟩)] w fun e w'=>e=.returned (.bool (outB l && (kerB l && (decide (0<=l.pad) && (decide (l.pad < l.kh) && (decide (l.pad < l.kw) && (wgtB l (l.out * l.kh * l.kw) && sameB l ⟨l.kind,0,l.out,l.kh,l.kw,l.stride,l.pad,l.weights,l.bias⟩)))))))/\Below w.heap.size w w':=by
 obtain ⟨a1,a2,c1,c2,rfl,r1,r2⟩:=hv.ex;have HV:=hid hv;have q1:=r1.len;have q2:=r2.len;obtain ⟨R1,R2⟩:=hd2 r1 r2;generalize hRr:(outB l && (kerB l && (decide (0<=l.pad) && (decide (l.pad < l.kh) && (decide (l.pad < l.kw) && (wgtB l (l.out * l.kh * l.kw) && sameB l ⟨l.kind,0,l.out,l.kh,l.kw,l.stride,l.pad,l.weights,l.bias⟩))))))=RR;obtain ⟨HRd,HPpo,HPpn⟩:=hd3 hRr hppo hppn;clear hRr hv r1 r2 hppo hppn
 go_enter Tryz.func118,Tryz.ntmps118
 go_upto_region 1 with fail
 have hb0:=blA w (layO l a1 c1 a2 c2 44);have hx:=Box9.alloc w (.int .i64 l.kind) (.int .i64 l.frm) (.int .i64 l.out) (.int .i64 l.kh) (.int .i64 l.kw) (.int .i64 l.stride) (.int .i64 l.pad) (.slice a1 l.weights.length c1) (.slice a2 l.bias.length c2) 44;generalize w.alloc (layO l a1 c1 a2 c2 44)=W at *;obtain ⟨HB,HX,HW0⟩:=hd3 hb0 hx (Below.refl W.heap.size W);clear hx hb0;obtain ⟨x0,x1,x2,x3,x4,x5,x6,x7,x8,xlt⟩:=HX.out;obtain ⟨ppo,lpo⟩:=HPpo.out.below HB.out;obtain ⟨ppn,lpn⟩:=HPpn.out.below HB.out;have HC:=hid (mOut ((HV.out.below HB.out).below HW0.out))
 cases e1:outB l with
 | false=>
  have HR:Hid (false=RR):=by unfold Hid;rw [<- HRd.out,e1];rfl
  rw [e1] at HC;clear e1
  go_wp2_with fail
  refine HC.out.mono ?_
  rintro e w1 ⟨rfl,hb1⟩;have HW1:=htr HW0 hb1;clear hb1 x0 x1 x2 x3 x4 x5 x6 x7 x8 ppo lpo ppn lpn;obtain ⟨x0,x1,x2,x3,x4,x5,x6,x7,x8,xlt1⟩:=HX.out.below HW1.out;obtain ⟨ppo,lpo⟩:=(HPpo.out.below HB.out).below HW1.out;obtain ⟨ppn,lpn⟩:=(HPpn.out.below HB.out).below HW1.out;go_wp2;go_ret;exact ⟨ret_bool HR.out,HB.out.trans (HW1.out.mono HB.out.size)⟩
 | true=>
  rw [e1] at HC;have HE1:=hid e1;obtain ⟨o1,o2⟩:1<=l.out/\l.out<=16384:=by unfold outB at e1;simpa using e1
  clear e1
  go_wp2_with fail
  refine HC.out.mono ?_
  rintro e w1 ⟨rfl,hb1⟩;have HW1:=htr HW0 hb1;clear hb1 x0 x1 x2 x3 x4 x5 x6 x7 x8 ppo lpo ppn lpn;obtain ⟨x0,x1,x2,x3,x4,x5,x6,x7,x8,xlt1⟩:=HX.out.below HW1.out;obtain ⟨ppo,lpo⟩:=(HPpo.out.below HB.out).below HW1.out;obtain ⟨ppn,lpn⟩:=(HPpn.out.below HB.out).below HW1.out;have HC2:=hid (mKernel ((HV.out.below HB.out).below HW1.out))
  cases e2:kerB l with
  | false=>
   have HR:Hid (false=RR):=by unfold Hid;rw [<- HRd.out,HE1.out,e2];rfl
   rw [e2] at HC2;clear e2
   go_wp2_with fail
   refine HC2.out.mono ?_
   rintro e w2 ⟨rfl,hb2⟩;have HW2:=htr HW1 hb2;clear hb2 x0 x1 x2 x3 x4 x5 x6 x7 x8 ppo lpo ppn lpn;obtain ⟨x0,x1,x2,x3,x4,x5,x6,x7,x8,xlt2⟩:=HX.out.below HW2.out;obtain ⟨ppo,lpo⟩:=(HPpo.out.below HB.out).below HW2.out;obtain ⟨ppn,lpn⟩:=(HPpn.out.below HB.out).below HW2.out;go_wp2;go_ret;exact ⟨ret_bool HR.out,HB.out.trans (HW2.out.mono HB.out.size)⟩
  | true=>
   rw [e2] at HC2;have HE2:=hid e2;obtain ⟨⟨k1,k2⟩,⟨k3,k4⟩,_⟩:(1<=l.kh/\l.kh<=64)/\(1<=l.kw/\l.kw<=64)/\(1<=l.stride/\l.stride<=64):=by unfold kerB sidB at e2;simpa using e2
   clear e2;obtain ⟨⟨m1,m2⟩,m3,m4⟩:=conv_bd o1 o2 k1 k2 k3 k4
   go_wp2_with fail
   refine HC2.out.mono ?_
   rintro e w2 ⟨rfl,hb2⟩;have HW2:=htr HW1 hb2;clear hb2 x0 x1 x2 x3 x4 x5 x6 x7 x8 ppo lpo ppn lpn;obtain ⟨x0,x1,x2,x3,x4,x5,x6,x7,x8,xlt2⟩:=HX.out.below HW2.out;obtain ⟨ppo,lpo⟩:=(HPpo.out.below HB.out).below HW2.out;obtain ⟨ppn,lpn⟩:=(HPpn.out.below HB.out).below HW2.out
   by_cases g1:0<=l.pad
   ·by_cases g2:l.pad < l.kh
    ·by_cases g3:l.pad < l.kw
     ·have HC3:=hid (mWeights ((HV.out.below HB.out).below HW2.out) (l.out * l.kh * l.kw) m3 (by omega))
      cases e3:wgtB l (l.out * l.kh * l.kw) with
      | false=>
       have HR:Hid (false=RR):=by unfold Hid;rw [<- HRd.out,HE1.out,HE2.out,decide_eq_true g1,decide_eq_true g2,decide_eq_true g3,e3];rfl
       rw [e3] at HC3;clear e3
       go_wp2_with fail
       refine HC3.out.mono ?_
       rintro e w3 ⟨rfl,hb3⟩;have HW3:=htr HW2 hb3;clear hb3 x0 x1 x2 x3 x4 x5 x6 x7 x8 ppo lpo ppn lpn;obtain ⟨x0,x1,x2,x3,x4,x5,x6,x7,x8,xlt3⟩:=HX.out.below HW3.out;obtain ⟨ppo,lpo⟩:=(HPpo.out.below HB.out).below HW3.out;obtain ⟨ppn,lpn⟩:=(HPpn.out.below HB.out).below HW3.out;go_wp2;go_ret;exact ⟨ret_bool HR.out,HB.out.trans (HW3.out.mono HB.out.size)⟩
      | true=>
       have HR:Hid (sameB l ⟨l.kind,0,l.out,l.kh,l.kw,l.stride,l.pad,l.weights,l.bias⟩=RR):=by unfold Hid;rw [<- HRd.out,HE1.out,HE2.out,decide_eq_true g1,decide_eq_true g2,decide_eq_true g3,e3];rfl
       rw [e3] at HC3;clear e3
       go_wp2_with fail
       refine HC3.out.mono ?_
       rintro e w3 ⟨rfl,hb3⟩;have HW3:=htr HW2 hb3;clear hb3 x0 x1 x2 x3 x4 x5 x6 x7 x8 ppo lpo ppn lpn;obtain ⟨x0,x1,x2,x3,x4,x5,x6,x7,x8,xlt3⟩:=HX.out.below HW3.out;obtain ⟨ppo,lpo⟩:=(HPpo.out.below HB.out).below HW3.out;obtain ⟨ppn,lpn⟩:=(HPpn.out.below HB.out).below HW3.out;have HCo:=hid (mOnly (m:=⟨0,0,l.out,l.kh,l.kw,l.stride,l.pad,l.weights,l.bias⟩) ((HV.out.below HB.out).below HW3.out) (u:=.agg #[.int .i64 0,.int .i64 0,.int .i64 l.out,.int .i64 l.kh,.int .i64 l.kw,.int .i64 l.stride,.int .i64 l.pad,.slice a1 l.weights.length c1,.slice a2 l.bias.length c2]) ⟨a1,a2,c1,c2,rfl,(R1.out.below HB.out).below HW3.out,(R2.out.below HB.out).below HW3.out⟩);generalize sameB l ⟨l.kind,0,l.out,l.kh,l.kw,l.stride,l.pad,l.weights,l.bias⟩=R at *
       go_wp2_with fail
       refine HCo.out.mono ?_
       rintro e w4 ⟨rfl,hb4⟩;have HW4:=htr HW3 hb4;clear hb4 x0 x1 x2 x3 x4 x5 x6 x7 x8 ppo lpo ppn lpn;obtain ⟨x0,x1,x2,x3,x4,x5,x6,x7,x8,xlt4⟩:=HX.out.below HW4.out;obtain ⟨ppo,lpo⟩:=(HPpo.out.below HB.out).below HW4.out;obtain ⟨ppn,lpn⟩:=(HPpn.out.below HB.out).below HW4.out;go_wp2;go_ret;exact ⟨ret_bool HR.out,HB.out.trans (HW4.out.mono HB.out.size)⟩
     ·have HR:Hid (false=RR):=by unfold Hid;rw [<- HRd.out,HE1.out,HE2.out,decide_eq_true g1,decide_eq_true g2,decide_eq_false g3];rfl
      go_wp2;go_ret;exact ⟨ret_bool HR.out,HB.out.trans (HW2.out.mono HB.out.size)⟩
    ·have HR:Hid (false=RR):=by unfold Hid;rw [<- HRd.out,HE1.out,HE2.out,decide_eq_true g1,decide_eq_false g2];rfl
     go_wp2;go_ret;exact ⟨ret_bool HR.out,HB.out.trans (HW2.out.mono HB.out.size)⟩
   ·have HR:Hid (false=RR):=by unfold Hid;rw [<- HRd.out,HE1.out,HE2.out,decide_eq_false g1];rfl
    go_wp2;go_ret;exact ⟨ret_bool HR.out,HB.out.trans (HW2.out.mono HB.out.size)⟩
theorem cond1 (l:LayL) (i:Int) (h:l.kind=1):(outB l && (wgtB l l.out && sameB l ⟨l.kind,0,l.out,0,0,0,0,l.weights,l.bias⟩))=condL l i:=by
 unfold condL sameB;rw [if_pos h,Bool.eq_iff_iff];simp only [Bool.and_eq_true,beq_iff_eq,decide_eq_true_eq,true_and,and_true]
theorem cond2 (l:LayL) (i:Int) (h:l.kind=2):(outB l && (kerB l && (decide (0<=l.pad) && (decide (l.pad < l.kh) && (decide (l.pad < l.kw) && (wgtB l (l.out * l.kh * l.kw) && sameB l ⟨l.kind,0,l.out,l.kh,l.kw,l.stride,l.pad,l.weights,l.bias⟩))))))=condL l i:=by
 unfold condL sameB;rw [if_neg (by omega),if_pos h,Bool.eq_iff_iff];simp only [Bool.and_eq_true,beq_iff_eq,decide_eq_true_eq,true_and,and_true]
theorem cond3 (l:LayL) (i:Int) (h:l.kind=3 ∨ l.kind=4):(kerB l && sameB l ⟨l.kind,0,0,l.kh,l.kw,l.stride,0,[],[]⟩)=condL l i:=by
 unfold condL sameB noneB;rw [if_neg (by omega),if_neg (by omega),if_pos h,Bool.eq_iff_iff];simp only [Bool.and_eq_true,beq_iff_eq,decide_eq_true_eq,true_and,and_true]
 constructor
 ·rintro ⟨k0,k1,k2,k3,k4,k5⟩;exact ⟨k0,⟨k1,k2,k3⟩,k4,k5⟩
 ·rintro ⟨k0,⟨k1,k2,k3⟩,k4,k5⟩;exact ⟨k0,k1,k2,k3,k4,k5⟩
theorem cond5 (l:LayL) (i:Int) (h:l.kind=5 ∨ l.kind=6):(sameB l ⟨l.kind,0,0,0,0,0,0,[],[]⟩)=condL l i:=by
 unfold condL sameB noneB;rw [if_neg (by omega),if_neg (by omega),if_neg (by omega),if_pos h,Bool.eq_iff_iff];simp only [Bool.and_eq_true,beq_iff_eq,decide_eq_true_eq,true_and,and_true]
 constructor
 ·rintro ⟨k1,k2,k3,k4,k5,k6,k7,k8⟩;exact ⟨⟨k1,k2,k3,k4,k5,k6⟩,k7,k8⟩
 ·rintro ⟨⟨k1,k2,k3,k4,k5,k6⟩,k7,k8⟩;exact ⟨k1,k2,k3,k4,k5,k6,k7,k8⟩
theorem cond7 (l:LayL) (i:Int) (h:l.kind=7):(decide (-1<=l.frm) && (decide (l.frm < i) && sameB l ⟨l.kind,l.frm,0,0,0,0,0,[],[]⟩))=condL l i:=by
 unfold condL sameB noneB;rw [if_neg (by omega),if_neg (by omega),if_neg (by omega),if_neg (by omega),if_pos h,Bool.eq_iff_iff];simp only [Bool.and_eq_true,beq_iff_eq,decide_eq_true_eq,true_and,and_true]
 constructor
 ·rintro ⟨k1,k2,k3,k4,k5,k6,k7,k8,k9⟩;exact ⟨k1,k2,⟨k3,k4,k5,k6,k7⟩,k8,k9⟩
 ·rintro ⟨k1,k2,⟨k3,k4,k5,k6,k7⟩,k8,k9⟩;exact ⟨k1,k2,k3,k4,k5,k6,k7,k8,k9⟩
end Go.Proofs.YtfgmmghmmfmdgaaGreat
namespace Go.Proofs.YtfgmmghmmfmdgaaGreat
open Go.Lib (hid)
def ratOf (x:RatL):Rat:=mkRat (sgn x.neg (lval x.num)) (underN x.den)
def ratL (q:Rat):RatL:=⟨decide (q.num < 0),limbs q.num.natAbs,if q.den=1 then [] else limbs q.den⟩
theorem sgn_natAbs (neg:Bool) (n:Nat):(sgn neg n).natAbs=n:=by cases neg <;> simp [sgn]
theorem quotN_ratL (neg:Bool) (n:Nat) {d:Nat} (hd:0 < d):quotN neg n d=ratL (mkRat (sgn neg n) d):=by
 have hg:0 < Nat.gcd n d:=Nat.gcd_pos_of_pos_right _ hd;obtain ⟨k,hk⟩:=Nat.gcd_dvd_left n d;rw [Rat.mkRat_def,dif_neg (by omega),Rat.normalize_eq];unfold quotN ratL;simp only [sgn_natAbs];have e:sgn neg n / ((Nat.gcd n d:Nat):Int)=sgn neg (n / Nat.gcd n d):=by
  generalize Nat.gcd n d=g at *;subst hk;rw [Nat.mul_div_cancel_left _ hg];cases neg
  ·simp only [sgn];simp;rw [Int.mul_ediv_cancel_left _ (by omega)]
  ·simp only [sgn];simp;rw [<- Int.mul_neg,Int.mul_ediv_cancel_left _ (by omega)]
 rw [e,sgn_natAbs]
 congr 1
 have h0:n=0 ↔ n / Nat.gcd n d=0:=by
  constructor
  ·rintro rfl;simp
  ·intro h;generalize Nat.gcd n d=g at *;subst hk;rw [Nat.mul_div_cancel_left _ hg] at h;rw [h,Nat.mul_zero]
 generalize n / Nat.gcd n d=q at *
 by_cases hn:n=0
 ·rw [h0.1 hn];cases neg <;> simp [sgn,hn]
 ·have hq:q ≠ 0:=fun h=>hn (h0.2 h)
  cases neg
  ·simp [sgn]
  ·simp [sgn,hn];omega
theorem canonL_ratL (x:RatL):canonL x=ratL (ratOf x):=quotN_ratL _ _ (underN_pos _)
theorem underN_ratL (q:Rat):underN (ratL q).den=q.den:=by
 unfold ratL underN
 dsimp only
 have:=q.den_nz
 by_cases h:q.den=1
 ·rw [if_pos h,lval_nil,if_pos rfl,h]
 ·rw [if_neg h,lval_limbs,if_neg this]
theorem sgn_ratL (q:Rat):sgn (ratL q).neg (lval (ratL q).num)=q.num:=by
 unfold ratL sgn
 dsimp only
 rw [lval_limbs]
 by_cases h:q.num < 0
 ·rw [decide_eq_true h];simp;omega
 ·rw [decide_eq_false h];simp;omega
theorem ratOf_ratL (q:Rat):ratOf (ratL q)=q:=by
 unfold ratOf;rw [underN_ratL,sgn_ratL,Rat.mkRat_self]
theorem sgn_mul (a b:Bool) (n m:Nat):sgn (a != b) (n * m)=sgn a n * sgn b m:=by
 cases a <;> cases b <;> simp [sgn,Int.neg_mul,Int.mul_neg]
theorem mulQ (a b:Bool) (n m d e:Nat):mkRat (sgn (a != b) (n * m)) (d * e)=mkRat (sgn a n) d * mkRat (sgn b m) e:=by
 rw [sgn_mul,Rat.mkRat_mul_mkRat]
theorem addQ (a b:Bool) (n m:Nat) {d e:Nat} (hd:0 < d) (he:0 < e):mkRat (sgn a (n * e)+sgn b (m * d)) (d * e)=mkRat (sgn a n) d+mkRat (sgn b m) e:=by
 rw [Rat.mkRat_add_mkRat _ _ (by omega) (by omega)]
 congr 1
 cases a <;> cases b <;> simp [sgn,Int.neg_mul]
theorem inv_mkRat' (b:Bool) (m e:Nat):(mkRat (sgn b m) e)⁻¹=mkRat (sgn b e) m:=by
 rw [Rat.mkRat_eq_div,Rat.mkRat_eq_div,Rat.div_def,Rat.div_def,Rat.inv_mul_rev,Rat.inv_inv];cases b
 ·rfl
 ·have h:(-((m:Int):Rat))⁻¹= -((m:Int):Rat)⁻¹:=by grind
  simp only [sgn,if_true,Rat.intCast_neg,h,Rat.mul_neg,Rat.neg_mul];rfl
theorem divQ (a b:Bool) (n m d e:Nat):mkRat (sgn (a != b) (n * e)) (d * m)=mkRat (sgn a n) d / mkRat (sgn b m) e:=by
 rw [Rat.div_def,inv_mkRat' b m e,sgn_mul,Rat.mkRat_mul_mkRat]
def signQ (q:Rat):Int:=if q < 0 then -1 else if 0 < q then 1 else 0
theorem mkRat_pos_iff {z:Int} {d:Nat} (hd:0 < d):0 < mkRat z d ↔ 0 < z:=by
 rw [Rat.mkRat_eq_div];have h:(0:Rat) < (d:Rat):=by exact_mod_cast hd
 rw [Rat.lt_div_iff h,Rat.zero_mul];exact Rat.intCast_lt_intCast (a:=0)
theorem mkRat_neg_iff {z:Int} {d:Nat} (hd:0 < d):mkRat z d < 0 ↔ z < 0:=by
 rw [Rat.mkRat_eq_div];have h:(0:Rat) < (d:Rat):=by exact_mod_cast hd
 rw [Rat.div_lt_iff h,Rat.zero_mul];exact Rat.intCast_lt_intCast (b:=0)
theorem signZ_signQ (x:RatL):signZ x.neg (lval x.num)=signQ (ratOf x):=by
 unfold signQ ratOf;simp only [mkRat_neg_iff (underN_pos _),mkRat_pos_iff (underN_pos _)];unfold signZ sgn;cases x.neg <;> by_cases h:lval x.num=0 <;> simp [h] <;> omega
structure RatLe (x:RatL) (k:Nat):Prop where
 num:x.num.length<=k
 den:x.den.length<=k
theorem RatLe.mono {x:RatL} {k m:Nat} (h:RatLe x k) (hm:k<=m):RatLe x m:=⟨Nat.le_trans h.num hm,Nat.le_trans h.den hm⟩
end Go.Proofs.YtfgmmghmmfmdgaaGreat
