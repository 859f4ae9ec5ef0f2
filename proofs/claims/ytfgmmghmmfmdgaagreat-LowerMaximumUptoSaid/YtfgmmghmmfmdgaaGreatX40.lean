/-
  Contracts of the functions that the statement reaches: LinZ, LjA, LjB, LjC.
-/
import Derived.Test.YtfgmmghmmfmdgaaGreatX39
set_option linter.all false
set_option maxRecDepth 100000
set_option maxHeartbeats 3200000
namespace Go.Proofs.YtfgmmghmmfmdgaaGreat
open Go.RowKit
open Go.Lib (hid)
theorem lPoolM {w:World} {gL gG n0:Nat} {S:LowV} {x:List AffQ} {sh:List Int} {win gs:List (List Int)} {n T C KH KW:Nat} {U:List AffQ} {F:Nat->Prop} {G:List AffQ->List Int->List AffQ × AffQ} (hL:LoBox w gL S) (hG:LSt w gG n0 U) (h3:x.length=S.nx) (h4:sh.length=S.nS)
  (hX:FRow gG w S.ax x) (hS:Ints w F S.aS sh) (hkh:S.kh=(KH:Int)) (hkw:S.kw=(KW:Int)) (hn:n=KH * KW) (hC:sh[0]? =some (C:Int))
  (hwin:(windowsL sh S.kh S.kw S.st S.pd).1=win) (hT:T=win.length) (hgs:gs=grpsL C n win) (hlen:∀ ix ∈ win,ix.length=C * n) (hix:∀ ix ∈ win,∀ i ∈ ix,0<=i/\i < x.length)
  (hNx:S.nx<=1000000) (hn1:1<=n) (hn2:n<=1000000) (hT2:T<=1000000) (hCn:C * n<=1000000) (hCT:C * T<=1000000)
  (hF:∀ (X:World) (m:Nat) (a:Option Addr) (c:Nat) (g:List Int),gs[m]? =some g->m < C * T->g.length=n->LSt X gG n0 (foldU G (gs.take m) U).1->LoBox X gL S->FRow gG X a (valsF g x)->n<=c->
   Calls Tryz.prog 58 #[.pointer (some ⟨gL,0,none⟩),.slice a n c] X (UnAf gG n0 X (G (foldU G (gs.take m) U).1 g).1 (G (foldU G (gs.take m) U).1 g).2)):
  Calls Tryz.prog 57 #[.pointer (some ⟨gL,0,none⟩),.func (.func 58) #[.pointer (some ⟨gL,0,none⟩)] #[]] w (RowU gG n0 w (foldU G gs U).1 (foldU G gs U).2):=by
 obtain ⟨HSB,HG,HX,H3,HT,HLen⟩:=hd6 hL hG hX h3 hT hlen;obtain ⟨HIx,HCT,HCn,HGs,HFn⟩:=hd5 hix hCT hCn hgs hF;have hsl:0 < sh.length:=(List.getElem?_eq_some_iff.1 hC).1;obtain ⟨bS,oS,d0,haS,sc,hd0,_,hbS,_,_,_⟩:=hS.pick2 hsl;rw [hC] at hd0;cases hd0;have hC2:C<=1000000:=by
  have:=Nat.le_mul_of_pos_right C (show 0 < n by omega);omega
 have HWn:=lWindows hL h4 hS;rw [hwin] at HWn;have HWn:=hid HWn;have m1:IntKind.i64.wrap ((KH:Int) * (KW:Int))=(n:Int):=by rw [<- Int.natCast_mul, <- hn];exact IntWalk.i64_in _ (by omega)
 obtain ⟨Hkh,Hkw,HaS⟩:=hd3 hkh hkw haS;have hns:0 < S.nS:=by rw [<- h4];exact hsl
 clear hX h3 h4 hS hwin hT hlen hix hCT hCn hkh hkw haS hn hC hL hG hgs hF
 go_enter Tryz.func57,Tryz.ntmps57
 go_upto_region 2 with fail
 go_wp2_with fail
 refine HWn.out.mono ?_
 rintro e Wx ⟨aw,cw,rfl,hI,hb⟩;rw [<- HT.out];obtain ⟨HSx,HBx⟩:=hd2 (HSB.out.below hb) hb;have sc:=(hb.cell (p:=⟨bS,oS,none⟩) hbS).trans sc;have hbS2:=Nat.lt_of_lt_of_le hbS hb.size;have HI:=hid (hI.mono (fun b hb1 hb2=>HG.out.fresh hb hb2 hb1));clear hI hb HWn HSB
 go_upto_region 3 with fail
 have f3:=HSx.out.f3;have f4:=HSx.out.f4;have slt:=HSx.out.lt;rw [Hkh.out] at f3;rw [Hkw.out] at f4
 go_quiet (fail)
 have hdn:Below Wx.heap.size Wx (Wx.drewN nq):=below_drewN (Below.refl _ _) nq;generalize Wx.drewN nq=Wy at *;obtain ⟨HSy,HIy⟩:=hd2 (HSx.out.below hdn) (HI.out.stp (Stp.of hdn (HG.out.below HBx.out).lt));have HBy:=htr HBx hdn;have sc:=(hdn.cell (p:=⟨bS,oS,none⟩) hbS2).trans sc;have hbS3:=Nat.lt_of_lt_of_le hbS2 hdn.size;obtain ⟨HGy,HXy⟩:=hd2 (GRow.start (HG.out.below HBy.out)) (HX.out.stp HG.out (Stp.of HBy.out HG.out.lt));clear f3 f4 slt hdn HSx HI HBx hbS2;have f9:=HSy.out.f9;have slt:=HSy.out.lt;rw [HaS.out] at f9;go_wp2;clear f9 sc slt hbS3 hbS
 go_loopw [5,33] (fun v i wr=>∃ (k m:Nat) (a:Option Addr) (c:Nat),k<=C/\Hid (m=k * T)/\v=.slice a m c/\i=.int .i64 (k:Int)/\Hid (GRow gG n0 Wy wr (.slice a m c) (foldU G (gs.take m) U).2 (foldU G (gs.take m) U).1)) (fun _ i _=>C - (intOf i).toNat)
 case atStart=>exact ⟨0,0,none,0,Nat.zero_le _,by unfold Hid;omega,rfl,rfl,by unfold Hid;simpa [foldU] using HGy.out⟩
 case round=>
  obtain ⟨k,m,b0,k0,hk,HM,rfl,rfl,HOut⟩:=hrel
  by_cases hlt:k < C
  ·go_wp2
   go_loopw [5,38] (fun v j wr=>∃ (i m:Nat) (a:Option Addr) (c:Nat),i<=T/\Hid (m=k * T+i)/\v=.slice a m c/\j=.int .i64 (i:Int)/\Hid (GRow gG n0 Wy wr (.slice a m c) (foldU G (gs.take m) U).2 (foldU G (gs.take m) U).1)) (fun _ j _=>T - (intOf j).toNat)
   case atStart=>exact ⟨0,m,b0,k0,Nat.zero_le _,HM.out,rfl,rfl,HOut.out⟩
   case round=>
    clear HM HOut;obtain ⟨i,m,b0,k0,hi0,HM,rfl,rfl,HOut⟩:=hrel
    by_cases hi:i < T
    ·obtain ⟨p0,hp0⟩:∃ p0,p0=k * n:=⟨_,rfl⟩
     obtain ⟨p1,hp1⟩:∃ p1,p1=(k+1) * n:=⟨_,rfl⟩
     have hmul:p1<=C * n:=by rw [hp1];exact Nat.mul_le_mul_right _ hlt
     have hp01:p1=p0+n:=by rw [hp1,hp0,Nat.succ_mul]
     have hcn:=HCn.out;have h10:p1 - p0=n:=by omega
     have hmCT:m+1<=C * T:=by
      have h1:(k+1) * T<=C * T:=Nat.mul_le_mul_right _ hlt;have h3:=HM.out;rw [Nat.succ_mul] at h1;omega
     have hmT:m+1<=1000000:=by have h2:=HCT.out;omega
     have HIr:=HIy.out.stp HOut.out.st;obtain ⟨bt,ot,l,ai,ci,haw',tc0,hl,hlc,hIl,hbt,_⟩:=HIr.pickc (k:=i) (by have:=HT.out;omega);have hmem:=List.mem_of_getElem? hl;obtain ⟨ln,hln⟩:∃ ln,ln=l.length:=⟨_,rfl⟩
     have hln2:p1<=ln:=by rw [hln,HLen.out l hmem];exact hmul
     have hln3:ln<=1000000:=by rw [hln,HLen.out l hmem];exact hcn
     have hp0l:p0 < ln:=by omega
     have hp01l:p0<=p1:=by omega
     rw [<- hln] at tc0 hlc;obtain ⟨bi,oi,_,hai,_,_,_,_,_,_,_⟩:=hIl.pick2 (k:=0) (by omega);rw [hai] at hIl;obtain ⟨hsl2,hsub⟩:=hIl.sub (lo:=p0) (n:=n) (by omega);obtain ⟨ll,hll⟩:∃ ll,ll=List.take n (List.drop p0 l):=⟨_,rfl⟩
     rw [<- hll] at hsl2 hsub;have hgm:gs[m]? =some ll:=by
      have h:=grpsL_at (C:=C) (n:=n) (k:=k) (i:=i) (win:=win) hlt (by have:=HT.out;omega);rw [<- HT.out, <- HM.out, <- HGs.out,List.getD_eq_getElem?_getD,hl, <- hp0] at h;rw [h,hll];rfl
     have hmx:∀ j ∈ ll,0<=j/\j < x.length:=fun j hj=>HIx.out l hmem j (partL_mem (lo:=p0) (n:=n) (by rw [hll] at hj;exact hj))
     obtain ⟨HMx,HSub,HSl⟩:=hd3 hmx hsub hsl2;have HXr:=hid (HXy.out.stp HGy.out.un HOut.out.st).at';obtain ⟨HSr,HStep,HGm⟩:=hd3 (HSy.out.stp HGy.out.un HOut.out.st) (foldU_take G hgm U) hgm;have HM1:Hid (m+1=k * T+(i+1)):=by have:=HM.out;unfold Hid;omega
     have m0:IntKind.i64.wrap ((k:Int) * (n:Int))=(p0:Int):=by
      rw [<- Int.natCast_mul, <- hp0];exact IntWalk.i64_in _ (by omega)
     have HM2:Hid (IntKind.i64.wrap (((k:Int)+1) * (n:Int))=(p1:Int)):=by
      have e:((k:Int)+1) * (n:Int)=(p1:Int):=by rw [hp1];simp
      unfold Hid;rw [e];exact IntWalk.i64_in _ (by omega)
     have HCTm:=hid hmCT;have hbt2:bt < wr.heap.size:=hbt;subst haw' hai;clear hl hmem hln hIl hsl2 hsub hmx hgm hp0 hp1 hll HIr hmCT;have m2:IntKind.i64.wrap (((k:Int)+1) * (n:Int))=(p1:Int):=HM2.out;obtain ⟨wq,hwq⟩:∃ wq:World,wq=wr:=⟨_,rfl⟩
     subst hwq;go_wp2;clear m2 m0 tc0;simp only [Nat.add_sub_cancel_left]
     go_loopw [11,52] (fun v q wi=>∃ (j:Nat) (a:Option Addr) (c:Nat),j<=n/\v=.slice a j c/\q=.int .i64 (j:Int)/\Hid (OutF wq wi (.slice a j c) (valsF (ll.take j) x))) (fun _ q _=>n - (intOf q).toNat)
     case atStart=>exact ⟨0,none,0,Nat.zero_le _,rfl,rfl,by unfold Hid;simpa [valsF] using OutF.start wq⟩
     case round=>
      obtain ⟨j,b2,k2,hj0,rfl,rfl,HJn⟩:=hrel
      by_cases hj:j < n
      ·have hbj:Below wq.heap.size wq wr:=HJn.out.bl;obtain ⟨b6,o6,xi,ha6,xc,hxi,_,hb6,_,_,_⟩:=(HSub.out.below hbj).pick2 (k:=j) (by rw [HSl.out];exact hj);cases ha6;obtain ⟨hx0,hx1⟩:=HMx.out xi (List.mem_of_getElem? hxi);obtain ⟨iN,rfl⟩:=Int.eq_ofNat_of_zero_le hx0;have hiN:iN < x.length:=by omega
       obtain ⟨bx,ox,y,q0,q1,q2,q3,hax,hbx,hyy,yc0,yc1,yc2,yc3,hyv⟩:=HXr.out.pick (k:=iN) hiN;obtain ⟨ya,yn,yc,yb,yan,ynn,ycn,yad,ynd,ycd,rfl,rfl,rfl,rfl⟩:=hyv.spell;have hxk:x.getD iN zerA=y:=by rw [List.getD_eq_getElem?_getD,hyy];rfl
       have HVal:=hid (valsF_take (x:=x) hxi);rw [show ((iN:Int)).toNat=iN from Int.toNat_natCast iN,hxk] at HVal;have yc0:=(hbj.cell (p:=⟨bx,ox+iN * 4,none⟩) hbx).trans yc0;have yc1:=(hbj.cell (p:=⟨bx,ox+iN * 4+1,none⟩) hbx).trans yc1;have yc2:=(hbj.cell (p:=⟨bx,ox+iN * 4+2,none⟩) hbx).trans yc2;have yc3:=(hbj.cell (p:=⟨bx,ox+iN * 4+3,none⟩) hbx).trans yc3;have hbx2:=Nat.lt_of_lt_of_le hbx hbj.size;have f10:=(HSr.out.below hbj).f10;have slt:=(HSr.out.below hbj).lt;rw [hax] at f10;have hiS:iN < S.nx:=by rw [<- H3.out];exact hiN
       have hal:=blA wr (.cells #[.slice ya yn yc,.bool yb,.slice yan ynn ycn,.slice yad ynd ycd] 53);obtain ⟨HRow,HOw⟩:=hd2 (One4.form (formK.below hyv hbj) 53) (HJn.out.below hal);have HLj:Hid ((valsF (ll.take j) x).length=j):=by
        have:=HSl.out;unfold Hid;rw [valsF_len,List.length_take];omega
       clear hyy hyv hxk hal hbj hxi hx0 hx1
       go_wp2_with (at_builtin;refine wpList_app4 (T:=53) formK (.slice none 0 0) (.bool false) (.slice none 0 0) (.slice none 0 0) 80 (by intro u hu;simp at hu;rcases hu with rfl | rfl | rfl | rfl <;> rfl) rfl (.tmp 56) (.tmp 64) 28 rfl wq.heap.size Tryz.underlying28 (by kernel_rfl) (by omega) (.slice b2 j k2) j _ HLj.out rfl HOw.out.own _ y HRow.out rfl (by omega) HOw.out.bl.size ?_;intro b3 k3 w3 hown hk3 hg hbe hnx;have HOut3:=hid (show OutF wq w3 (.slice b3 (j+1) k3) (valsF (ll.take (j+1)) x) from ⟨by rw [HVal.out];exact hown,HOw.out.bl.trans hbe⟩);clear hown hg hbe hnx)
       go_roundw
       case rel=>
        exact ⟨j+1,b3,k3,hj,rfl,by go_num,HOut3.out⟩
       case measure=>simp [intOf];omega
      ·obtain rfl:j=n:=by omega
       have HJ:=HJn.out;rw [show ll.take j=ll from List.take_of_length_le (by rw [HSl.out];exact Nat.le_refl _)] at HJ;have hvl:(valsF ll x).length=j:=by rw [valsF_len];exact HSl.out
       have hjk:j<=k2:=by
        obtain ⟨a',c',e,hc⟩:=HJ.own.form;cases e;rw [hvl] at hc;exact hc
       have hF1:=FOwn.of HJ.own HOut.out.un HJ.bl;have HFR:=(hF1.read (by rw [hvl];omega))
       have HG1:=hid (HOut.out.below HJ.bl);have HC:=hid (HFn.out wr m b2 k2 ll HGm.out (by have:=HCTm.out;omega) HSl.out HG1.out.un (HSr.out.below HJ.bl) HFR hjk);obtain ⟨U',f',hUf⟩:∃ U' f',G (foldU G (gs.take m) U).1 ll=(U',f'):=⟨_,_,rfl⟩
       rw [hUf] at HC HStep;have HLm:Hid ((foldU G (gs.take m) U).2.length=m):=by
        have h1:=(List.getElem?_eq_some_iff.1 HGm.out).1;unfold Hid;rw [foldU_len,List.length_take];omega
       clear HJ hF1 HFR hUf hvl HJn
       go_wp2_with fail
       refine HC.out.mono ?_
       rintro e w5 ⟨v5,rfl,hv5,hl5,hs5⟩;obtain ⟨ya,yn,yc,yb,yan,ynn,ycn,yad,ynd,ycd,rfl⟩:=hv5.spell;have hal:=blA w5 (.cells #[.slice ya yn yc,.bool yb,.slice yan ynn ycn,.slice yad ynd ycd] 53);obtain ⟨HRow,HG5⟩:=hd2 (One4.form hv5.fp 53) ((HG1.out.stp hs5 hl5).below hal);have HGe:=hid HG5.out.st.size;clear hv5 hl5 hs5 hal HC HG1
       go_wp2_with (at_builtin;refine wpList_app4 (T:=53) formK (.slice none 0 0) (.bool false) (.slice none 0 0) (.slice none 0 0) 80 (by intro u hu;simp at hu;rcases hu with rfl | rfl | rfl | rfl <;> rfl) rfl (.tmp 67) (.tmp 71) 28 rfl Wy.heap.size Tryz.underlying28 (by kernel_rfl) (by omega) (.slice b0 m k0) m _ HLm.out rfl HG5.out.own.own _ f' HRow.out rfl (by omega) HGe.out ?_;intro b3 k3 w3 hown hk3 hg hbe hnx;have HOut3:=hid (show GRow gG n0 Wy w3 (.slice b3 (m+1) k3) (foldU G (gs.take (m+1)) U).2 (foldU G (gs.take (m+1)) U).1 from by rw [HStep.out];exact HG5.out.app hown hg hnx);clear hown hg hbe hnx)
       go_roundw
       case rel=>exact ⟨i+1,m+1,b3,k3,hi,HM1.out,rfl,by go_num,HOut3.out⟩
       case measure=>simp [intOf];omega
    ·obtain rfl:i=T:=by omega
     have HM1:Hid (m=(k+1) * i):=by have:=HM.out;unfold Hid;rw [Nat.succ_mul];omega
     go_wp2;go_roundw
     case rel=>exact ⟨k+1,m,b0,k0,hlt,HM1.out,rfl,by go_num,HOut.out⟩
     case measure=>simp [intOf];omega
  ·obtain rfl:k=C:=by omega
   have e:gs.take m=gs:=List.take_of_length_le (by rw [HGs.out,grpsL_len,HM.out,HT.out];exact Nat.le_refl _);have HO:=HOut.out;rw [e] at HO;have HO:=hid HO;have hfl:(foldU G gs U).2.length=m:=by rw [foldU_len,HGs.out,grpsL_len,HM.out,HT.out]
   go_wp2;exact bodyPost_ret (v:=.slice b0 m k0) (by simp [results,Tryz.results57,go_sem]) rfl ((HO.out.rebase (Stp.of HBy.out HG.out.lt) HBy.out.size).ret hfl)
theorem lPoolA {w:World} {gL gG n0:Nat} {S:LowV} {x:List AffQ} {sh:List Int} {win gs:List (List Int)} {n T C KH KW:Nat} {U:List AffQ} {F:Nat->Prop} {G:List AffQ->List Int->List AffQ × AffQ} (hL:LoBox w gL S) (hG:LSt w gG n0 U) (h3:x.length=S.nx) (h4:sh.length=S.nS)
  (hX:FRow gG w S.ax x) (hS:Ints w F S.aS sh) (hkh:S.kh=(KH:Int)) (hkw:S.kw=(KW:Int)) (hn:n=KH * KW) (hC:sh[0]? =some (C:Int))
  (hwin:(windowsL sh S.kh S.kw S.st S.pd).1=win) (hT:T=win.length) (hgs:gs=grpsL C n win) (hlen:∀ ix ∈ win,ix.length=C * n) (hix:∀ ix ∈ win,∀ i ∈ ix,0<=i/\i < x.length)
  (hNx:S.nx<=1000000) (hn1:1<=n) (hn2:n<=1000000) (hT2:T<=1000000) (hCn:C * n<=1000000) (hCT:C * T<=1000000)
  (hF:∀ (X:World) (m:Nat) (a:Option Addr) (c:Nat) (g:List Int),gs[m]? =some g->m < C * T->g.length=n->LSt X gG n0 (foldU G (gs.take m) U).1->LoBox X gL S->FRow gG X a (valsF g x)->n<=c->
   Calls Tryz.prog 59 #[.slice a n c] X (UnAf gG n0 X (G (foldU G (gs.take m) U).1 g).1 (G (foldU G (gs.take m) U).1 g).2)):
  Calls Tryz.prog 57 #[.pointer (some ⟨gL,0,none⟩),.func (.func 59) #[] #[]] w (RowU gG n0 w (foldU G gs U).1 (foldU G gs U).2):=by
 obtain ⟨HSB,HG,HX,H3,HT,HLen⟩:=hd6 hL hG hX h3 hT hlen;obtain ⟨HIx,HCT,HCn,HGs,HFn⟩:=hd5 hix hCT hCn hgs hF;have hsl:0 < sh.length:=(List.getElem?_eq_some_iff.1 hC).1;obtain ⟨bS,oS,d0,haS,sc,hd0,_,hbS,_,_,_⟩:=hS.pick2 hsl;rw [hC] at hd0;cases hd0;have hC2:C<=1000000:=by
  have:=Nat.le_mul_of_pos_right C (show 0 < n by omega);omega
 have HWn:=lWindows hL h4 hS;rw [hwin] at HWn;have HWn:=hid HWn;have m1:IntKind.i64.wrap ((KH:Int) * (KW:Int))=(n:Int):=by rw [<- Int.natCast_mul, <- hn];exact IntWalk.i64_in _ (by omega)
 obtain ⟨Hkh,Hkw,HaS⟩:=hd3 hkh hkw haS;have hns:0 < S.nS:=by rw [<- h4];exact hsl
 clear hX h3 h4 hS hwin hT hlen hix hCT hCn hkh hkw haS hn hC hL hG hgs hF
 go_enter Tryz.func57,Tryz.ntmps57
 go_upto_region 2 with fail
 go_wp2_with fail
 refine HWn.out.mono ?_
 rintro e Wx ⟨aw,cw,rfl,hI,hb⟩;rw [<- HT.out];obtain ⟨HSx,HBx⟩:=hd2 (HSB.out.below hb) hb;have sc:=(hb.cell (p:=⟨bS,oS,none⟩) hbS).trans sc;have hbS2:=Nat.lt_of_lt_of_le hbS hb.size;have HI:=hid (hI.mono (fun b hb1 hb2=>HG.out.fresh hb hb2 hb1));clear hI hb HWn HSB
 go_upto_region 3 with fail
 have f3:=HSx.out.f3;have f4:=HSx.out.f4;have slt:=HSx.out.lt;rw [Hkh.out] at f3;rw [Hkw.out] at f4
 go_quiet (fail)
 have hdn:Below Wx.heap.size Wx (Wx.drewN nq):=below_drewN (Below.refl _ _) nq;generalize Wx.drewN nq=Wy at *;obtain ⟨HSy,HIy⟩:=hd2 (HSx.out.below hdn) (HI.out.stp (Stp.of hdn (HG.out.below HBx.out).lt));have HBy:=htr HBx hdn;have sc:=(hdn.cell (p:=⟨bS,oS,none⟩) hbS2).trans sc;have hbS3:=Nat.lt_of_lt_of_le hbS2 hdn.size;obtain ⟨HGy,HXy⟩:=hd2 (GRow.start (HG.out.below HBy.out)) (HX.out.stp HG.out (Stp.of HBy.out HG.out.lt));clear f3 f4 slt hdn HSx HI HBx hbS2;have f9:=HSy.out.f9;have slt:=HSy.out.lt;rw [HaS.out] at f9;go_wp2;clear f9 sc slt hbS3 hbS
 go_loopw [5,33] (fun v i wr=>∃ (k m:Nat) (a:Option Addr) (c:Nat),k<=C/\Hid (m=k * T)/\v=.slice a m c/\i=.int .i64 (k:Int)/\Hid (GRow gG n0 Wy wr (.slice a m c) (foldU G (gs.take m) U).2 (foldU G (gs.take m) U).1)) (fun _ i _=>C - (intOf i).toNat)
 case atStart=>exact ⟨0,0,none,0,Nat.zero_le _,by unfold Hid;omega,rfl,rfl,by unfold Hid;simpa [foldU] using HGy.out⟩
 case round=>
  obtain ⟨k,m,b0,k0,hk,HM,rfl,rfl,HOut⟩:=hrel
  by_cases hlt:k < C
  ·go_wp2
   go_loopw [5,38] (fun v j wr=>∃ (i m:Nat) (a:Option Addr) (c:Nat),i<=T/\Hid (m=k * T+i)/\v=.slice a m c/\j=.int .i64 (i:Int)/\Hid (GRow gG n0 Wy wr (.slice a m c) (foldU G (gs.take m) U).2 (foldU G (gs.take m) U).1)) (fun _ j _=>T - (intOf j).toNat)
   case atStart=>exact ⟨0,m,b0,k0,Nat.zero_le _,HM.out,rfl,rfl,HOut.out⟩
   case round=>
    clear HM HOut;obtain ⟨i,m,b0,k0,hi0,HM,rfl,rfl,HOut⟩:=hrel
    by_cases hi:i < T
    ·obtain ⟨p0,hp0⟩:∃ p0,p0=k * n:=⟨_,rfl⟩
     obtain ⟨p1,hp1⟩:∃ p1,p1=(k+1) * n:=⟨_,rfl⟩
     have hmul:p1<=C * n:=by rw [hp1];exact Nat.mul_le_mul_right _ hlt
     have hp01:p1=p0+n:=by rw [hp1,hp0,Nat.succ_mul]
     have hcn:=HCn.out;have h10:p1 - p0=n:=by omega
     have hmCT:m+1<=C * T:=by
      have h1:(k+1) * T<=C * T:=Nat.mul_le_mul_right _ hlt;have h3:=HM.out;rw [Nat.succ_mul] at h1;omega
     have hmT:m+1<=1000000:=by have h2:=HCT.out;omega
     have HIr:=HIy.out.stp HOut.out.st;obtain ⟨bt,ot,l,ai,ci,haw',tc0,hl,hlc,hIl,hbt,_⟩:=HIr.pickc (k:=i) (by have:=HT.out;omega);have hmem:=List.mem_of_getElem? hl;obtain ⟨ln,hln⟩:∃ ln,ln=l.length:=⟨_,rfl⟩
     have hln2:p1<=ln:=by rw [hln,HLen.out l hmem];exact hmul
     have hln3:ln<=1000000:=by rw [hln,HLen.out l hmem];exact hcn
     have hp0l:p0 < ln:=by omega
     have hp01l:p0<=p1:=by omega
     rw [<- hln] at tc0 hlc;obtain ⟨bi,oi,_,hai,_,_,_,_,_,_,_⟩:=hIl.pick2 (k:=0) (by omega);rw [hai] at hIl;obtain ⟨hsl2,hsub⟩:=hIl.sub (lo:=p0) (n:=n) (by omega);obtain ⟨ll,hll⟩:∃ ll,ll=List.take n (List.drop p0 l):=⟨_,rfl⟩
     rw [<- hll] at hsl2 hsub;have hgm:gs[m]? =some ll:=by
      have h:=grpsL_at (C:=C) (n:=n) (k:=k) (i:=i) (win:=win) hlt (by have:=HT.out;omega);rw [<- HT.out, <- HM.out, <- HGs.out,List.getD_eq_getElem?_getD,hl, <- hp0] at h;rw [h,hll];rfl
     have hmx:∀ j ∈ ll,0<=j/\j < x.length:=fun j hj=>HIx.out l hmem j (partL_mem (lo:=p0) (n:=n) (by rw [hll] at hj;exact hj))
     obtain ⟨HMx,HSub,HSl⟩:=hd3 hmx hsub hsl2;have HXr:=hid (HXy.out.stp HGy.out.un HOut.out.st).at';obtain ⟨HSr,HStep,HGm⟩:=hd3 (HSy.out.stp HGy.out.un HOut.out.st) (foldU_take G hgm U) hgm;have HM1:Hid (m+1=k * T+(i+1)):=by have:=HM.out;unfold Hid;omega
     have m0:IntKind.i64.wrap ((k:Int) * (n:Int))=(p0:Int):=by
      rw [<- Int.natCast_mul, <- hp0];exact IntWalk.i64_in _ (by omega)
     have HM2:Hid (IntKind.i64.wrap (((k:Int)+1) * (n:Int))=(p1:Int)):=by
      have e:((k:Int)+1) * (n:Int)=(p1:Int):=by rw [hp1];simp
      unfold Hid;rw [e];exact IntWalk.i64_in _ (by omega)
     have HCTm:=hid hmCT;have hbt2:bt < wr.heap.size:=hbt;subst haw' hai;clear hl hmem hln hIl hsl2 hsub hmx hgm hp0 hp1 hll HIr hmCT;have m2:IntKind.i64.wrap (((k:Int)+1) * (n:Int))=(p1:Int):=HM2.out;obtain ⟨wq,hwq⟩:∃ wq:World,wq=wr:=⟨_,rfl⟩
     subst hwq;go_wp2;clear m2 m0 tc0;simp only [Nat.add_sub_cancel_left]
     go_loopw [11,52] (fun v q wi=>∃ (j:Nat) (a:Option Addr) (c:Nat),j<=n/\v=.slice a j c/\q=.int .i64 (j:Int)/\Hid (OutF wq wi (.slice a j c) (valsF (ll.take j) x))) (fun _ q _=>n - (intOf q).toNat)
     case atStart=>exact ⟨0,none,0,Nat.zero_le _,rfl,rfl,by unfold Hid;simpa [valsF] using OutF.start wq⟩
     case round=>
      obtain ⟨j,b2,k2,hj0,rfl,rfl,HJn⟩:=hrel
      by_cases hj:j < n
      ·have hbj:Below wq.heap.size wq wr:=HJn.out.bl;obtain ⟨b6,o6,xi,ha6,xc,hxi,_,hb6,_,_,_⟩:=(HSub.out.below hbj).pick2 (k:=j) (by rw [HSl.out];exact hj);cases ha6;obtain ⟨hx0,hx1⟩:=HMx.out xi (List.mem_of_getElem? hxi);obtain ⟨iN,rfl⟩:=Int.eq_ofNat_of_zero_le hx0;have hiN:iN < x.length:=by omega
       obtain ⟨bx,ox,y,q0,q1,q2,q3,hax,hbx,hyy,yc0,yc1,yc2,yc3,hyv⟩:=HXr.out.pick (k:=iN) hiN;obtain ⟨ya,yn,yc,yb,yan,ynn,ycn,yad,ynd,ycd,rfl,rfl,rfl,rfl⟩:=hyv.spell;have hxk:x.getD iN zerA=y:=by rw [List.getD_eq_getElem?_getD,hyy];rfl
       have HVal:=hid (valsF_take (x:=x) hxi);rw [show ((iN:Int)).toNat=iN from Int.toNat_natCast iN,hxk] at HVal;have yc0:=(hbj.cell (p:=⟨bx,ox+iN * 4,none⟩) hbx).trans yc0;have yc1:=(hbj.cell (p:=⟨bx,ox+iN * 4+1,none⟩) hbx).trans yc1;have yc2:=(hbj.cell (p:=⟨bx,ox+iN * 4+2,none⟩) hbx).trans yc2;have yc3:=(hbj.cell (p:=⟨bx,ox+iN * 4+3,none⟩) hbx).trans yc3;have hbx2:=Nat.lt_of_lt_of_le hbx hbj.size;have f10:=(HSr.out.below hbj).f10;have slt:=(HSr.out.below hbj).lt;rw [hax] at f10;have hiS:iN < S.nx:=by rw [<- H3.out];exact hiN
       have hal:=blA wr (.cells #[.slice ya yn yc,.bool yb,.slice yan ynn ycn,.slice yad ynd ycd] 53);obtain ⟨HRow,HOw⟩:=hd2 (One4.form (formK.below hyv hbj) 53) (HJn.out.below hal);have HLj:Hid ((valsF (ll.take j) x).length=j):=by
        have:=HSl.out;unfold Hid;rw [valsF_len,List.length_take];omega
       clear hyy hyv hxk hal hbj hxi hx0 hx1
       go_wp2_with (at_builtin;refine wpList_app4 (T:=53) formK (.slice none 0 0) (.bool false) (.slice none 0 0) (.slice none 0 0) 80 (by intro u hu;simp at hu;rcases hu with rfl | rfl | rfl | rfl <;> rfl) rfl (.tmp 56) (.tmp 64) 28 rfl wq.heap.size Tryz.underlying28 (by kernel_rfl) (by omega) (.slice b2 j k2) j _ HLj.out rfl HOw.out.own _ y HRow.out rfl (by omega) HOw.out.bl.size ?_;intro b3 k3 w3 hown hk3 hg hbe hnx;have HOut3:=hid (show OutF wq w3 (.slice b3 (j+1) k3) (valsF (ll.take (j+1)) x) from ⟨by rw [HVal.out];exact hown,HOw.out.bl.trans hbe⟩);clear hown hg hbe hnx)
       go_roundw
       case rel=>
        exact ⟨j+1,b3,k3,hj,rfl,by go_num,HOut3.out⟩
       case measure=>simp [intOf];omega
      ·obtain rfl:j=n:=by omega
       have HJ:=HJn.out;rw [show ll.take j=ll from List.take_of_length_le (by rw [HSl.out];exact Nat.le_refl _)] at HJ;have hvl:(valsF ll x).length=j:=by rw [valsF_len];exact HSl.out
       have hjk:j<=k2:=by
        obtain ⟨a',c',e,hc⟩:=HJ.own.form;cases e;rw [hvl] at hc;exact hc
       have hF1:=FOwn.of HJ.own HOut.out.un HJ.bl;have HFR:=(hF1.read (by rw [hvl];omega))
       have HG1:=hid (HOut.out.below HJ.bl);have HC:=hid (HFn.out wr m b2 k2 ll HGm.out (by have:=HCTm.out;omega) HSl.out HG1.out.un (HSr.out.below HJ.bl) HFR hjk);obtain ⟨U',f',hUf⟩:∃ U' f',G (foldU G (gs.take m) U).1 ll=(U',f'):=⟨_,_,rfl⟩
       rw [hUf] at HC HStep;have HLm:Hid ((foldU G (gs.take m) U).2.length=m):=by
        have h1:=(List.getElem?_eq_some_iff.1 HGm.out).1;unfold Hid;rw [foldU_len,List.length_take];omega
       clear HJ hF1 HFR hUf hvl HJn
       go_wp2_with fail
       refine HC.out.mono ?_
       rintro e w5 ⟨v5,rfl,hv5,hl5,hs5⟩;obtain ⟨ya,yn,yc,yb,yan,ynn,ycn,yad,ynd,ycd,rfl⟩:=hv5.spell;have hal:=blA w5 (.cells #[.slice ya yn yc,.bool yb,.slice yan ynn ycn,.slice yad ynd ycd] 53);obtain ⟨HRow,HG5⟩:=hd2 (One4.form hv5.fp 53) ((HG1.out.stp hs5 hl5).below hal);have HGe:=hid HG5.out.st.size;clear hv5 hl5 hs5 hal HC HG1
       go_wp2_with (at_builtin;refine wpList_app4 (T:=53) formK (.slice none 0 0) (.bool false) (.slice none 0 0) (.slice none 0 0) 80 (by intro u hu;simp at hu;rcases hu with rfl | rfl | rfl | rfl <;> rfl) rfl (.tmp 67) (.tmp 71) 28 rfl Wy.heap.size Tryz.underlying28 (by kernel_rfl) (by omega) (.slice b0 m k0) m _ HLm.out rfl HG5.out.own.own _ f' HRow.out rfl (by omega) HGe.out ?_;intro b3 k3 w3 hown hk3 hg hbe hnx;have HOut3:=hid (show GRow gG n0 Wy w3 (.slice b3 (m+1) k3) (foldU G (gs.take (m+1)) U).2 (foldU G (gs.take (m+1)) U).1 from by rw [HStep.out];exact HG5.out.app hown hg hnx);clear hown hg hbe hnx)
       go_roundw
       case rel=>exact ⟨i+1,m+1,b3,k3,hi,HM1.out,rfl,by go_num,HOut3.out⟩
       case measure=>simp [intOf];omega
    ·obtain rfl:i=T:=by omega
     have HM1:Hid (m=(k+1) * i):=by have:=HM.out;unfold Hid;rw [Nat.succ_mul];omega
     go_wp2;go_roundw
     case rel=>exact ⟨k+1,m,b0,k0,hlt,HM1.out,rfl,by go_num,HOut.out⟩
     case measure=>simp [intOf];omega
  ·obtain rfl:k=C:=by omega
   have e:gs.take m=gs:=List.take_of_length_le (by rw [HGs.out,grpsL_len,HM.out,HT.out];exact Nat.le_refl _);have HO:=HOut.out;rw [e] at HO;have HO:=hid HO;have hfl:(foldU G gs U).2.length=m:=by rw [foldU_len,HGs.out,grpsL_len,HM.out,HT.out]
   go_wp2;exact bodyPost_ret (v:=.slice b0 m k0) (by simp [results,Tryz.results57,go_sem]) rfl ((HO.out.rebase (Stp.of HBy.out HG.out.lt) HBy.out.size).ret hfl)
theorem lOut1 {w:World} {gL:Nat} {S:LowV} {R:Ending->World->Prop} (hL:LoBox w gL S) (hk:S.kd=1) (h:Calls Tryz.prog 55 #[.pointer (some ⟨gL,0,none⟩)] w R) (hr:∀ e w',R e w'->∃ a n c,e=.returned (.slice a n c)):
  Calls Tryz.prog 35 #[.pointer (some ⟨gL,0,none⟩)] w R:=by
 have HC:=hid h;have f0:=hL.f0;have glt:=hL.lt;rw [hk] at f0;clear hL hk h
 go_enter Tryz.func35,Tryz.ntmps35
 go_wp2_with fail
 refine HC.out.mono ?_
 intro e w1 hR;obtain ⟨a,n,c,rfl⟩:=hr e w1 hR;have HR:=hid hR;clear hR HC;go_wp2;exact HR.out
theorem lOut2 {w:World} {gL:Nat} {S:LowV} {R:Ending->World->Prop} (hL:LoBox w gL S) (hk:S.kd=2) (h:Calls Tryz.prog 56 #[.pointer (some ⟨gL,0,none⟩)] w R) (hr:∀ e w',R e w'->∃ a n c,e=.returned (.slice a n c)):
  Calls Tryz.prog 35 #[.pointer (some ⟨gL,0,none⟩)] w R:=by
 have HC:=hid h;have f0:=hL.f0;have glt:=hL.lt;rw [hk] at f0;clear hL hk h
 go_enter Tryz.func35,Tryz.ntmps35
 go_wp2_with fail
 refine HC.out.mono ?_
 intro e w1 hR;obtain ⟨a,n,c,rfl⟩:=hr e w1 hR;have HR:=hid hR;clear hR HC;go_wp2;exact HR.out
theorem lOut3 {w:World} {gL:Nat} {S:LowV} {R:Ending->World->Prop} (hL:LoBox w gL S) (hk:S.kd=3) (h:Calls Tryz.prog 57 #[.pointer (some ⟨gL,0,none⟩),.func (.func 58) #[.pointer (some ⟨gL,0,none⟩)] #[]] w R) (hr:∀ e w',R e w'->∃ a n c,e=.returned (.slice a n c)):
  Calls Tryz.prog 35 #[.pointer (some ⟨gL,0,none⟩)] w R:=by
 have HC:=hid h;have f0:=hL.f0;have glt:=hL.lt;rw [hk] at f0;clear hL hk h
 go_enter Tryz.func35,Tryz.ntmps35
 go_wp2_with fail
 refine HC.out.mono ?_
 intro e w1 hR;obtain ⟨a,n,c,rfl⟩:=hr e w1 hR;have HR:=hid hR;clear hR HC;go_wp2;exact HR.out
theorem lOut4 {w:World} {gL:Nat} {S:LowV} {R:Ending->World->Prop} (hL:LoBox w gL S) (hk:S.kd=4) (h:Calls Tryz.prog 57 #[.pointer (some ⟨gL,0,none⟩),.func (.func 59) #[] #[]] w R) (hr:∀ e w',R e w'->∃ a n c,e=.returned (.slice a n c)):
  Calls Tryz.prog 35 #[.pointer (some ⟨gL,0,none⟩)] w R:=by
 have HC:=hid h;have f0:=hL.f0;have glt:=hL.lt;rw [hk] at f0;clear hL hk h
 go_enter Tryz.func35,Tryz.ntmps35
 go_wp2_with fail
 refine HC.out.mono ?_
 intro e w1 hR;obtain ⟨a,n,c,rfl⟩:=hr e w1 hR;have HR:=hid hR;clear hR HC;go_wp2;exact HR.out
theorem lOut6 {w:World} {gL:Nat} {S:LowV} (hL:LoBox w gL S) (hk:S.kd=6):
  Calls Tryz.prog 35 #[.pointer (some ⟨gL,0,none⟩)] w fun e w'=>e=.returned (.slice S.ax S.nx S.cx)/\Below w.heap.size w w':=by
 have f0:=hL.f0;have f10:=hL.f10;have glt:=hL.lt;rw [hk] at f0;clear hL hk
 go_enter Tryz.func35,Tryz.ntmps35
 go_wp2;exact bodyPost_ret (v:=.slice S.ax S.nx S.cx) (by simp [results,Tryz.results35,go_sem]) rfl ⟨rfl,Below.refl _ _⟩
theorem lOut5 {w:World} {gL gG n:Nat} {S:LowV} {x U:List AffQ} (hL:LoBox w gL S) (hk:S.kd=5) (hfu:S.fu=unitV gG) (hG:LSt w gG n U) (hX:FRow gG w S.ax x) (h3:x.length=S.nx) (hNx:S.nx<=500000) (hn:n<=1000000) (hU:U.length+S.nx<=1000000):
  Calls Tryz.prog 35 #[.pointer (some ⟨gL,0,none⟩)] w (RowU gG n w (foldU (unitF n) x U).1 (foldU (unitF n) x U).2):=by
 obtain ⟨HSB,HG,HX,H3,HK⟩:=hd5 hL hG hX h3 hk;have f0:=hL.f0;have f10:=hL.f10;have glt:=hL.lt;rw [hk] at f0;clear hL hk hG hX h3
 go_enter Tryz.func35,Tryz.ntmps35
 go_wp2;clear f0 f10 glt
 go_loopw [3,38] (fun v i wr=>∃ (k:Nat) (a:Option Addr) (c:Nat),k<=S.nx/\v=.slice a k c/\i=.int .i64 (k:Int)/\Hid (GRow gG n w wr (.slice a k c) (foldU (unitF n) (x.take k) U).2 (foldU (unitF n) (x.take k) U).1)) (fun _ i _=>S.nx - (intOf i).toNat)
 case atStart=>exact ⟨0,none,0,Nat.zero_le _,rfl,rfl,by unfold Hid;simpa [foldU] using GRow.start HG.out⟩
 case round=>
  obtain ⟨k,b0,k0,hk,rfl,rfl,HOut⟩:=hrel
  by_cases hlk:k < S.nx
  ·have HXr:=HX.out.stp HG.out HOut.out.st;obtain ⟨bx,ox,y,q0,q1,q2,q3,hax,hbx,hyy,yc0,yc1,yc2,yc3,hyv⟩:=HXr.at'.pick (k:=k) (by rw [H3.out];exact hlk);obtain ⟨ya,yn,yc,yb,yan,ynn,ycn,yad,ynd,ycd,rfl,rfl,rfl,rfl⟩:=hyv.spell;have HStep:=hid (foldU_take (unitF n) hyy U);have hal:=blA wr (.cells #[.slice ya yn yc,.bool yb,.slice yan ynn ycn,.slice yad ynd ycd] 53);have HYb:=hid (Box4.alloc wr (.slice ya yn yc) (.bool yb) (.slice yan ynn ycn) (.slice yad ynd ycd) 53);have HYv:=hid (formK.below hyv hal).val;obtain ⟨HGj,HFy,HSj⟩:=hd3 (HOut.out.below hal) (HOut.out.un.fresh hal (Nat.le_refl _) (by simp)) ((HSB.out.stp HG.out HOut.out.st).below hal);have HLl:Hid ((foldU (unitF n) (x.take k) U).2.length=k):=by unfold Hid;rw [foldU_len,List.length_take,H3.out];omega
   have hUk:(foldU (unitF n) (x.take k) U).1.length=U.length+k:=by
    rw [foldU_grow (unitF n) 1 _ _ (fun U b _=>by simp [unitF]),List.length_take,H3.out];omega
   have hax':=hid hax;rw [hax];obtain ⟨Uk,hUk2⟩:∃ Uk,Uk=(foldU (unitF n) (x.take k) U).1:=⟨_,rfl⟩
   obtain ⟨Lk,hLk2⟩:∃ Lk,Lk=(foldU (unitF n) (x.take k) U).2:=⟨_,rfl⟩
   rw [<- hUk2] at HGj HStep hUk;rw [<- hLk2] at HGj HStep HLl;have HUk:=hid hUk;clear hyy hyv hal HOut HXr hUk2 hLk2 hUk
   go_upto_region 15 with fail
   generalize wr.alloc (.cells #[.slice ya yn yc,.bool yb,.slice yan ynn ycn,.slice yad ynd ycd] 53)=wj at *;clear yc0 yc1 yc2 yc3;have hLj:=HGj.out.un;have HCe:Hid (∀ X,Stp gG wj X->X.cell? ⟨wr.heap.size,0,none⟩=some (.slice ya yn yc)/\X.cell? ⟨wr.heap.size,1,none⟩=some (.bool yb)/\X.cell? ⟨wr.heap.size,2,none⟩=some (.slice yan ynn ycn)/\X.cell? ⟨wr.heap.size,3,none⟩=some (.slice yad ynd ycd)/\
     X.cell? ⟨gL,12,none⟩=some (.func (.func 33) #[] #[.pointer (some ⟨gG,0,none⟩)])):=fun X hs=>
    ⟨(HFy.out.cell hs).trans HYb.out.c0,(HFy.out.cell hs).trans HYb.out.c1,(HFy.out.cell hs).trans HYb.out.c2,(HFy.out.cell hs).trans HYb.out.c3,by rw [((HSj.out.fre HGj.out.un).cell hs).trans HSj.out.f12,hfu];rfl⟩
   have HUn:Hid (∀ X,Stp gG wj X->LSt X gG n Uk->Calls Tryz.prog 33 #[.agg #[.slice ya yn yc,.bool yb,.slice yan ynn ycn,.slice yad ynd ycd],.pointer (some ⟨gG,0,none⟩)] X (UnAf gG n X (Uk++[y]) (varA (n+Uk.length)))):=fun X hs hl=>lUnit hl (HYv.out.stp HGj.out.un hs) hn (by have:=HUk.out;omega)
   obtain ⟨V,hV⟩:∃ V,V=varA (n+Uk.length):=⟨_,rfl⟩
   have HStep2:Hid (foldU (unitF n) (x.take (k+1)) U=(Uk++[y],Lk++[V])):=by
    rw [HStep.out,hV];rfl
   rw [<- hV] at HUn;have hgy:=HFy.out.lt;have HGe:=hid HGj.out.st.size;clear hV HStep
   refine wp_region_slots_gen 8 (by kernel_rfl) (by kernel_rfl) (by kernel_rfl) (by kernel_rfl) (by decide) (AllU gG n wj Uk (Uk++[y]) 6 [.val (.slice b0 k k0),.val (.pointer (some ⟨gL,0,none⟩)),.val (.pointer (some ⟨gL,0,none⟩)),.val (.pointer (some ⟨gL,12,none⟩)),.val (.func (.func 33) #[] #[.pointer (some ⟨gG,0,none⟩)]),.val (.agg #[.slice ya yn yc,.bool yb,.slice yan ynn ycn,.slice yad ynd ycd]),.frm V,.onf V]) (fun g=>AllU.start (by assumption) g) ?_ ?_
   ·intro ops;simp only [List.take_succ_cons,List.take_zero,ShowsJ]
    refine ⟨?v0,?v1,?_,?_,?_,?v5,?_,?_,trivial⟩
    all_goals (intro d y' X hJ hd hW;obtain ⟨a0,a1,a2,a3,f12⟩:=HCe.out X hJ.st;have hxy:=Nat.lt_of_lt_of_le hgy hJ.st.size;simp only [Waits,Region.binds,forall_const,Bool.false_eq_true,false_implies,and_true,true_and] at hW)
    case v0|v1|v5=>
     simp [fillFrom,Act.put];have HJ:=hid hJ;clear hJ hd hW;go_wp2
     first | refine ⟨_,rfl,?_⟩ | refine ⟨rfl,_,?_⟩ | skip
     exact HJ.out.here (by decide) rfl
    ·have h1:d 1=true:=by simp only [hW]
     have J1:=hJ.all 1 h1;simp only [GU,List.getElem?_cons_zero,List.getElem?_cons_succ] at J1;simp [fillFrom,Act.put];generalize hg1:y' 1=y1;rw [hg1] at J1;clear hg1;obtain rfl:=J1;have HJ:=hid hJ;clear hJ hd hW h1;go_wp2
     first | refine ⟨_,rfl,?_⟩ | refine ⟨rfl,_,?_⟩ | skip
     exact HJ.out.here (by decide) rfl
    ·have h2:d 2=true:=by simp only [hW]
     have J2:=hJ.all 2 h2;simp only [GU,List.getElem?_cons_zero,List.getElem?_cons_succ] at J2;simp [fillFrom,Act.put];generalize hg2:y' 2=y2;rw [hg2] at J2;clear hg2;obtain rfl:=J2;have HJ:=hid hJ;clear hJ hd hW h2;go_wp2
     first | refine ⟨_,rfl,?_⟩ | refine ⟨rfl,_,?_⟩ | skip
     exact HJ.out.here (by decide) rfl
    ·have h3:d 3=true:=by simp only [hW]
     have J3:=hJ.all 3 h3;simp only [GU,List.getElem?_cons_zero,List.getElem?_cons_succ] at J3;simp [fillFrom,Act.put];generalize hg3:y' 3=y3;rw [hg3] at J3;clear hg3;obtain rfl:=J3;have HJ:=hid hJ;clear hJ hd hW h3;go_wp2
     first | refine ⟨_,rfl,?_⟩ | refine ⟨rfl,_,?_⟩ | skip
     exact HJ.out.here (by decide) rfl
    ·have h4:d 4=true:=by simp only [hW]
     have h5:d 5=true:=by simp only [hW]
     have J4:=hJ.all 4 h4;have J5:=hJ.all 5 h5;simp only [GU,List.getElem?_cons_zero,List.getElem?_cons_succ] at J4 J5;simp [fillFrom,Act.put];generalize hg4:y' 4=y4;rw [hg4] at J4;generalize hg5:y' 5=y5;rw [hg5] at J5;clear hg4;obtain rfl:=J4;clear hg5;obtain rfl:=J5;obtain ⟨HJ,HUnn⟩:=hd2 hJ (hJ.old hd);clear hJ hd hW h4 h5;have HCt:=hid (HUn.out X HJ.out.st HUnn.out)
     go_wp2_with fail
     refine HCt.out.mono ?_
     rintro e w1 ⟨v1,rfl,kv,kl,kb⟩;obtain ⟨KV,KL,KB⟩:=hd3 kv kl kb;clear kv kl kb HCt;go_wp2
     first | exact ⟨_,rfl,HJ.out.unit KL.out KB.out KV.out⟩ | exact HJ.out.unit KL.out KB.out KV.out
    ·have h6:d 6=true:=by simp only [hW]
     have J6:=hJ.all 6 h6;simp only [GU,List.getElem?_cons_zero,List.getElem?_cons_succ] at J6;simp [fillFrom,Act.put];generalize hg6:y' 6=y6;rw [hg6] at J6;clear hg6;have K6:=hid J6;clear J6;have HJ:=hid hJ;clear hJ hd hW h6;obtain ⟨xa,xn,xc,xb,xan,xnn,xcn,xad,xnd,xcd,rfl⟩:=K6.out.spell;obtain ⟨HRow,HBa⟩:=hd2 (One4.form K6.out.fp 53) ((Below.refl X.heap.size X).alloc (Nat.le_refl _) (.cells #[.slice xa xn xc,.bool xb,.slice xan xnn xcn,.slice xad xnd xcd] 53));have HFr:=hid (HJ.out.un.fresh HBa.out (Nat.le_refl _) (by simp));clear K6;go_wp2
     first | exact ⟨_,rfl,HJ.out.step (by decide) HBa.out ⟨HRow.out,fun b e=>by cases e;exact HFr.out⟩⟩ | exact HJ.out.step (by decide) HBa.out ⟨HRow.out,fun b e=>by cases e;exact HFr.out⟩
   ·intro ops d y' X hA hJ;have J0:=hJ.all 0 (hA 0 (by decide));have J7:=hJ.all 7 (hA 7 (by decide));simp only [GU,List.getElem?_cons_zero,List.getElem?_cons_succ] at J0 J7;obtain ⟨a0,a1,a2,a3,f12⟩:=HCe.out X hJ.st;have hxy:=Nat.lt_of_lt_of_le hgy hJ.st.size;obtain ⟨HLn,HSn⟩:=hd2 (hJ.new (hA 6 (by decide))) hJ.st;clear hJ hA;simp only [List.take_succ_cons,List.take_zero,List.drop_succ_cons,List.drop_zero];simp [fillFrom,Act.put];generalize y' 0=y0 at J0 ⊢;obtain rfl:=J0;generalize y' 7=y7 at J7 ⊢;have HRow:=hid J7.1;clear J7;obtain ⟨HGX,HGe2⟩:=hd2 (HGj.out.stp HSn.out HLn.out) (Nat.le_trans HGe.out HSn.out.size)
    go_wp2_with (at_builtin;refine wpList_app4 (T:=53) formK (.slice none 0 0) (.bool false) (.slice none 0 0) (.slice none 0 0) 80 (by intro u hu;simp at hu;rcases hu with rfl | rfl | rfl | rfl <;> rfl) rfl (.tmp 42) (.tmp 49) 28 rfl w.heap.size Tryz.underlying28 (by kernel_rfl) (by omega) (.slice b0 k k0) k Lk HLl.out rfl HGX.out.own.own _ V HRow.out rfl (by omega) HGe2.out ?_;intro b3 k3 w3 hown hk3 hg hbe hnx;have HOut3:=hid (show GRow gG n w w3 (.slice b3 (k+1) k3) (foldU (unitF n) (x.take (k+1)) U).2 (foldU (unitF n) (x.take (k+1)) U).1 from by rw [HStep2.out];exact HGX.out.app hown hg hnx);clear hown hg hbe hnx)
    go_roundw
    case rel=>exact ⟨k+1,b3,k3,hlk,rfl,by go_num,HOut3.out⟩
    case measure=>simp [intOf];omega
  ·obtain rfl:k=S.nx:=by omega
   have HO:=HOut.out;rw [show x.take S.nx=x from List.take_of_length_le (by rw [H3.out];exact Nat.le_refl _)] at HO;have HO:=hid HO;have hfl:(foldU (unitF n) x U).2.length=S.nx:=by rw [foldU_len,H3.out]
   clear HOut;go_wp2;exact bodyPost_ret (v:=.slice b0 S.nx k0) (by simp [results,Tryz.results35,go_sem]) rfl (HO.out.ret hfl)
def addF (x y:List AffQ) (k:Nat):List AffQ:=(List.range k).map fun i=>addA 1 (x.getD i zerA) (y.getD i zerA)
theorem addF_succ (x y:List AffQ) (k:Nat):addF x y (k+1)=addF x y k++[addA 1 (x.getD k zerA) (y.getD k zerA)]:=by simp [addF,List.range_succ]
theorem addF_len (x y:List AffQ) (k:Nat):(addF x y k).length=k:=by simp [addF]
theorem lOut7 {w:World} {gL gG n bT oT nf cf fr1 D B N:Nat} {af:Option Addr} {S:LowV} {x y U:List AffQ} (hL:LoBox w gL S) (hk:S.kd=7) (hfr:S.fr+1=(fr1:Int)) (haT:S.aT=some ⟨bT,oT,none⟩) (hfl:fr1 < S.nT) (hbT:bT < w.heap.size)
  (hc:w.cell? ⟨bT,oT+fr1,none⟩=some (.slice af nf cf)) (hG:LSt w gG n U) (hX:FRow gG w S.ax x) (h3:x.length=S.nx) (hY:FRow gG w af y) (hyl:y.length=nf) (hxy:nf=S.nx) (hNx:S.nx<=500000) (hnT:S.nT<=1000000)
  (bx:BdFs D B N x) (by':BdFs D B N y) (hD:0 < D) (hP:Pay D (B+B)) (hN:N<=500000):
  Calls Tryz.prog 35 #[.pointer (some ⟨gL,0,none⟩)] w (RowU gG n w U (addF x y S.nx)):=by
 obtain ⟨PP,hPE,hPP⟩:∃ PP:Prop,PP=Pay D (B+B)/\PP:=⟨_,rfl,hP⟩
 obtain ⟨HPE,HPP,HSB,HG,HX,HY⟩:=hd6 hPE hPP hL hG hX hY;obtain ⟨H3,HYl,HBx,HBy⟩:=hd4 h3 hyl bx by'
 have f0:=hL.f0;have f1:=hL.f1;have f11:=hL.f11;have glt:=hL.lt;subst hxy;rw [hk] at f0;rw [haT] at f11;have m1:IntKind.i64.wrap (S.fr+1)=(fr1:Int):=by rw [hfr];exact IntWalk.i64_in _ (by omega)
 have hfr2:(fr1:Int) < (S.nT:Int):=by omega
 clear hL hk hG hX h3 hY hyl bx by' hP hPE hPP haT hfr
 go_enter Tryz.func35,Tryz.ntmps35
 go_upto_region 19 with fail
 go_quiet (fail)
 have hdn:Below w.heap.size w (w.drewN nq):=below_drewN (Below.refl _ _) nq;generalize w.drewN nq=Wy at *;obtain ⟨HBd,HSy,HGy,HSt⟩:=hd4 hdn (HSB.out.below hdn) (HG.out.below hdn) (Stp.of hdn HG.out.lt);obtain ⟨HXy,HYy⟩:=hd2 (HX.out.stp HG.out HSt.out) (HY.out.stp HG.out HSt.out);clear hdn f0 f1 f11 glt m1 HX HY HSB hc;go_wp2
 go_loopw [3,68] (fun v i wr=>∃ (k:Nat) (a:Option Addr) (c:Nat),k<=S.nx/\v=.slice a k c/\i=.int .i64 (k:Int)/\Hid (GRow gG n Wy wr (.slice a k c) (addF x y k) U)) (fun _ i _=>S.nx - (intOf i).toNat)
 case atStart=>exact ⟨0,none,0,Nat.zero_le _,rfl,rfl,by unfold Hid;simpa [addF] using GRow.start HGy.out⟩
 case round=>
  obtain ⟨k,b0,k0,hk,rfl,rfl,HOut⟩:=hrel
  by_cases hlk:k < S.nx
  ·have HXr:=HXy.out.stp HGy.out HOut.out.st;have HYr:=HYy.out.stp HGy.out HOut.out.st;obtain ⟨by1,oy,y1,q0,q1,q2,q3,hay,hby,hyy,yc0,yc1,yc2,yc3,hyv⟩:=HYr.at'.pick (k:=k) (by rw [HYl.out];exact hlk);obtain ⟨ya,yn,yc,yb,yan,ynn,ycn,yad,ynd,ycd,rfl,rfl,rfl,rfl⟩:=hyv.spell;obtain ⟨bx,ox,x1,r0,r1,r2,r3,hax,hbx,hxx,xc0,xc1,xc2,xc3,hxv⟩:=HXr.at'.pick (k:=k) (by rw [H3.out];exact hlk);obtain ⟨xa,xn,xc,xb,xan,xnn,xcn,xad,xnd,xcd,rfl,rfl,rfl,rfl⟩:=hxv.spell;have hxk:x.getD k zerA=x1:=by rw [List.getD_eq_getElem?_getD,hxx];rfl
   have hyk:y.getD k zerA=y1:=by rw [List.getD_eq_getElem?_getD,hyy];rfl
   have HStep:Hid _:=addF_succ x y k;rw [hxk,hyk] at HStep;have HFx:=hid (HXr.fr.resolve_left (fun e=>by rw [e] at hxx;cases hxx) _ hax);have hal:=blA wr (.cells #[.slice ya yn yc,.bool yb,.slice yan ynn ycn,.slice yad ynd ycd] 53);have HYb:=hid (Box4.alloc wr (.slice ya yn yc) (.bool yb) (.slice yan ynn ycn) (.slice yad ynd ycd) 53);have HYv:=hid (formK.below hyv hal).val;have HXv:=hid (formK.below hxv hal).val;obtain ⟨HGj,HFy,HFxj,HSj,Hxb,Hyb⟩:=hd6 (HOut.out.below hal) (HOut.out.un.fresh hal (Nat.le_refl _) (by simp)) (HFx.out.stp (Stp.of hal HOut.out.un.lt)) ((HSy.out.stp HGy.out HOut.out.st).below hal) (show BdF D B N x1 from by rw [<- hxk];exact HBx.out.at hD k) (show BdF D B N y1 from by rw [<- hyk];exact HBy.out.at hD k);have u0:=(hal.cell (p:=⟨bx,ox+k * 4,none⟩) hbx).trans xc0;have u1:=(hal.cell (p:=⟨bx,ox+k * 4+1,none⟩) hbx).trans xc1;have u2:=(hal.cell (p:=⟨bx,ox+k * 4+2,none⟩) hbx).trans xc2;have u3:=(hal.cell (p:=⟨bx,ox+k * 4+3,none⟩) hbx).trans xc3;obtain ⟨HU4,HAx⟩:=hd2 (And.intro u0 (And.intro u1 (And.intro u2 u3))) hax;rw [hay];clear hyy hyv hal HOut HXr HYr hxx hxv hxk hyk u0 u1 u2 u3 xc0 xc1 xc2 xc3 hax
   go_upto_region 22 with fail
   generalize wr.alloc (.cells #[.slice ya yn yc,.bool yb,.slice yan ynn ycn,.slice yad ynd ycd] 53)=wj at *;clear yc0 yc1 yc2 yc3;have hLj:=HGj.out.un;have HCe:Hid (∀ X,Stp gG wj X->X.cell? ⟨wr.heap.size,0,none⟩=some (.slice ya yn yc)/\X.cell? ⟨wr.heap.size,1,none⟩=some (.bool yb)/\X.cell? ⟨wr.heap.size,2,none⟩=some (.slice yan ynn ycn)/\X.cell? ⟨wr.heap.size,3,none⟩=some (.slice yad ynd ycd)/\
     X.cell? ⟨bx,ox+k * 4,none⟩=some (.slice xa xn xc)/\X.cell? ⟨bx,ox+k * 4+1,none⟩=some (.bool xb)/\X.cell? ⟨bx,ox+k * 4+2,none⟩=some (.slice xan xnn xcn)/\X.cell? ⟨bx,ox+k * 4+3,none⟩=some (.slice xad xnd xcd)/\
     X.cell? ⟨gL,10,none⟩=some (.slice (some ⟨bx,ox,none⟩) S.nx S.cx)):=fun X hs=>
    ⟨(HFy.out.cell hs).trans HYb.out.c0,(HFy.out.cell hs).trans HYb.out.c1,(HFy.out.cell hs).trans HYb.out.c2,(HFy.out.cell hs).trans HYb.out.c3,
     (HFxj.out.cell hs).trans HU4.out.1,(HFxj.out.cell hs).trans HU4.out.2.1,(HFxj.out.cell hs).trans HU4.out.2.2.1,(HFxj.out.cell hs).trans HU4.out.2.2.2,by rw [((HSj.out.fre HGj.out.un).cell hs).trans HSj.out.f10,HAx.out]⟩
   obtain ⟨pr,hpr⟩:∃ pr,pr=addA 1 x1 y1:=⟨_,rfl⟩
   rw [<- hpr] at HStep;have HAdd:Hid (∀ X,Stp gG wj X->Calls Tryz.prog 60 #[.agg #[.slice xa xn xc,.bool xb,.slice xan xnn xcn,.slice xad xnd xcd],.agg #[.slice ya yn yc,.bool yb,.slice yan ynn ycn,.slice yad ynd ycd]] X (RetAf X pr)):=fun X hs=>by
    rw [hpr];have h:=HPP.out;rw [HPE.out] at h;exact lAdd (HXv.out.stp HGj.out.un hs) (HYv.out.stp HGj.out.un hs) Hxb.out Hyb.out h hN
   have hgy:=HFy.out.lt;have hgx:=HFxj.out.lt;have HGe:=hid HGj.out.st.size;have HLl:Hid ((addF x y k).length=k):=addF_len x y k;obtain ⟨Lk,hLk⟩:∃ Lk,Lk=addF x y k:=⟨_,rfl⟩
   rw [<- hLk] at HLl HStep HGj;clear hpr hLk
   refine wp_region_slots_gen 11 (by kernel_rfl) (by kernel_rfl) (by kernel_rfl) (by kernel_rfl) (by decide) (AllU gG n wj U U 99 [.val (.slice b0 k k0),.val (.pointer (some ⟨gL,0,none⟩)),.val (.pointer (some ⟨gL,0,none⟩)),.val (.pointer (some ⟨gL,10,none⟩)),.val (.slice (some ⟨bx,ox,none⟩) S.nx S.cx),.val (.int .i64 (k:Int)),.val (.pointer (some ⟨bx,ox+k * 4,none⟩)),.val (.agg #[.slice xa xn xc,.bool xb,.slice xan xnn xcn,.slice xad xnd xcd]),.val (.agg #[.slice ya yn yc,.bool yb,.slice yan ynn ycn,.slice yad ynd ycd]),.frm pr,.onf pr]) (fun g=>AllU.start (by assumption) g) ?_ ?_
   ·intro ops;simp only [List.take_succ_cons,List.take_zero,ShowsJ]
    refine ⟨?v0,?v1,?_,?_,?_,?v5,?_,?_,?v8,?_,?_,trivial⟩
    all_goals (intro d y' X hJ hd hW;obtain ⟨a0,a1,a2,a3,e0,e1,e2,e3,f10⟩:=HCe.out X hJ.st;have hxy:=Nat.lt_of_lt_of_le hgy hJ.st.size;have hxx:=Nat.lt_of_lt_of_le hgx hJ.st.size;simp only [Waits,Region.binds,forall_const,Bool.false_eq_true,false_implies,and_true,true_and] at hW)
    case v0|v1|v5|v8=>
     simp [fillFrom,Act.put];have HJ:=hid hJ;clear hJ hd hW;go_wp2
     first | refine ⟨_,rfl,?_⟩ | refine ⟨rfl,_,?_⟩ | skip
     exact HJ.out.here (by decide) rfl
    ·have h1:d 1=true:=by simp only [hW]
     have J1:=hJ.all 1 h1;simp only [GU,List.getElem?_cons_zero,List.getElem?_cons_succ] at J1;simp [fillFrom,Act.put];generalize hg1:y' 1=y1;rw [hg1] at J1;clear hg1;obtain rfl:=J1;have HJ:=hid hJ;clear hJ hd hW h1;go_wp2
     first | refine ⟨_,rfl,?_⟩ | refine ⟨rfl,_,?_⟩ | skip
     exact HJ.out.here (by decide) rfl
    ·have h2:d 2=true:=by simp only [hW]
     have J2:=hJ.all 2 h2;simp only [GU,List.getElem?_cons_zero,List.getElem?_cons_succ] at J2;simp [fillFrom,Act.put];generalize hg2:y' 2=y2;rw [hg2] at J2;clear hg2;obtain rfl:=J2;have HJ:=hid hJ;clear hJ hd hW h2;go_wp2
     first | refine ⟨_,rfl,?_⟩ | refine ⟨rfl,_,?_⟩ | skip
     exact HJ.out.here (by decide) rfl
    ·have h3:d 3=true:=by simp only [hW]
     have J3:=hJ.all 3 h3;simp only [GU,List.getElem?_cons_zero,List.getElem?_cons_succ] at J3;simp [fillFrom,Act.put];generalize hg3:y' 3=y3;rw [hg3] at J3;clear hg3;obtain rfl:=J3;have HJ:=hid hJ;clear hJ hd hW h3;go_wp2
     first | refine ⟨_,rfl,?_⟩ | refine ⟨rfl,_,?_⟩ | skip
     exact HJ.out.here (by decide) rfl
    ·have h4:d 4=true:=by simp only [hW]
     have h5:d 5=true:=by simp only [hW]
     have J4:=hJ.all 4 h4;have J5:=hJ.all 5 h5;simp only [GU,List.getElem?_cons_zero,List.getElem?_cons_succ] at J4 J5;simp [fillFrom,Act.put];generalize hg4:y' 4=y4;rw [hg4] at J4;generalize hg5:y' 5=y5;rw [hg5] at J5;clear hg4;obtain rfl:=J4;clear hg5;obtain rfl:=J5;have HJ:=hid hJ;clear hJ hd hW h4 h5;go_wp2
     first | refine ⟨_,rfl,?_⟩ | refine ⟨rfl,_,?_⟩ | skip
     exact HJ.out.here (by decide) rfl
    ·have h6:d 6=true:=by simp only [hW]
     have J6:=hJ.all 6 h6;simp only [GU,List.getElem?_cons_zero,List.getElem?_cons_succ] at J6;simp [fillFrom,Act.put];generalize hg6:y' 6=y6;rw [hg6] at J6;clear hg6;obtain rfl:=J6;have HJ:=hid hJ;clear hJ hd hW h6;go_wp2
     first | refine ⟨_,rfl,?_⟩ | refine ⟨rfl,_,?_⟩ | skip
     exact HJ.out.here (by decide) rfl
    ·have h7:d 7=true:=by simp only [hW]
     have h8:d 8=true:=by simp only [hW]
     have J7:=hJ.all 7 h7;have J8:=hJ.all 8 h8;simp only [GU,List.getElem?_cons_zero,List.getElem?_cons_succ] at J7 J8;simp [fillFrom,Act.put];generalize hg7:y' 7=y7;rw [hg7] at J7;generalize hg8:y' 8=y8;rw [hg8] at J8;clear hg7;obtain rfl:=J7;clear hg8;obtain rfl:=J8;have HJ:=hid hJ;clear hJ hd hW h7 h8;have HCt:=hid (HAdd.out X HJ.out.st)
     go_wp2_with fail
     refine HCt.out.mono ?_
     rintro e w1 ⟨v1,rfl,kv,kb⟩;obtain ⟨KV,KB⟩:=hd2 kv kb;clear kv kb HCt;go_wp2
     first | exact ⟨_,rfl,HJ.out.step (by decide) KB.out KV.out⟩ | exact HJ.out.step (by decide) KB.out KV.out
    ·have h9:d 9=true:=by simp only [hW]
     have J9:=hJ.all 9 h9;simp only [GU,List.getElem?_cons_zero,List.getElem?_cons_succ] at J9;simp [fillFrom,Act.put];generalize hg9:y' 9=y9;rw [hg9] at J9;clear hg9;have K9:=hid J9;clear J9;have HJ:=hid hJ;clear hJ hd hW h9;obtain ⟨xa,xn,xc,xb,xan,xnn,xcn,xad,xnd,xcd,rfl⟩:=K9.out.spell;obtain ⟨HRow,HBa⟩:=hd2 (One4.form K9.out.fp 53) ((Below.refl X.heap.size X).alloc (Nat.le_refl _) (.cells #[.slice xa xn xc,.bool xb,.slice xan xnn xcn,.slice xad xnd xcd] 53));have HFr:=hid (HJ.out.un.fresh HBa.out (Nat.le_refl _) (by simp));clear K9;go_wp2
     first | exact ⟨_,rfl,HJ.out.step (by decide) HBa.out ⟨HRow.out,fun b e=>by cases e;exact HFr.out⟩⟩ | exact HJ.out.step (by decide) HBa.out ⟨HRow.out,fun b e=>by cases e;exact HFr.out⟩
   ·intro ops d y' X hA hJ;have J0:=hJ.all 0 (hA 0 (by decide));have J10:=hJ.all 10 (hA 10 (by decide));simp only [GU,List.getElem?_cons_zero,List.getElem?_cons_succ] at J0 J10;obtain ⟨a0,a1,a2,a3,e0,e1,e2,e3,f10⟩:=HCe.out X hJ.st;have hxy:=Nat.lt_of_lt_of_le hgy hJ.st.size;have hxx:=Nat.lt_of_lt_of_le hgx hJ.st.size;obtain ⟨HLn,HSn⟩:=hd2 hJ.same hJ.st;clear hJ hA;simp only [List.take_succ_cons,List.take_zero,List.drop_succ_cons,List.drop_zero];simp [fillFrom,Act.put];generalize y' 0=y0 at J0 ⊢;obtain rfl:=J0;generalize y' 10=y10 at J10 ⊢;have HRow:=hid J10.1;clear J10;obtain ⟨HGX,HGe2⟩:=hd2 (HGj.out.stp HSn.out HLn.out) (Nat.le_trans HGe.out HSn.out.size)
    go_wp2_with (at_builtin;refine wpList_app4 (T:=53) formK (.slice none 0 0) (.bool false) (.slice none 0 0) (.slice none 0 0) 80 (by intro u hu;simp at hu;rcases hu with rfl | rfl | rfl | rfl <;> rfl) rfl (.tmp 73) (.tmp 83) 28 rfl Wy.heap.size Tryz.underlying28 (by kernel_rfl) (by omega) (.slice b0 k k0) k Lk HLl.out rfl HGX.out.own.own _ pr HRow.out rfl (by omega) HGe2.out ?_;intro b3 k3 w3 hown hk3 hg hbe hnx;have HOut3:=hid (show GRow gG n Wy w3 (.slice b3 (k+1) k3) (addF x y (k+1)) U from by rw [HStep.out];exact HGX.out.app hown hg hnx);clear hown hg hbe hnx)
    go_roundw
    case rel=>exact ⟨k+1,b3,k3,hlk,rfl,by go_num,HOut3.out⟩
    case measure=>simp [intOf];omega
  ·obtain rfl:k=S.nx:=by omega
   go_wp2;exact bodyPost_ret (v:=.slice b0 S.nx k0) (by simp [results,Tryz.results35,go_sem]) rfl ((HOut.out.rebase HSt.out HBd.out.size).ret (addF_len x y S.nx))
end Go.Proofs.YtfgmmghmmfmdgaaGreat
