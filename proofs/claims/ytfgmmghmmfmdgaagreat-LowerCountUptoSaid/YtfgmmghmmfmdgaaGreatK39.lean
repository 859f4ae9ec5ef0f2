/-
  Contracts of the functions that the statement reaches: ModPA.
-/
import Derived.Test.YtfgmmghmmfmdgaaGreatK38
set_option linter.all false
set_option maxRecDepth 100000
set_option maxHeartbeats 3200000
namespace Go.Proofs.YtfgmmghmmfmdgaaGreat
open Go.RowKit
open Go.Lib (hid)
theorem r12Layer0 {w:World} {v:Value} {l:LayL} (hv:LayV w v l) (hr:LayRange l) (hle:LayLe l) (i:Int) (hi:0<=i) (hi2:i<=1000000) (hk:¬ (1<=l.kind/\l.kind<=7)):
  Calls Tryz.prog 94 #[v,.int .i64 i] w fun e w'=>e=.returned (.bool (layOK l i))/\Below w.heap.size w w':=by
 rw [<- refLay_eq];obtain ⟨a1,a2,c1,c2,rfl,r1,r2⟩:=hv.ex;have q1:=r1.len;have q2:=r2.len;obtain ⟨R1,R2,HLe⟩:=hd3 r1 r2 hle;generalize hRr:refLay l i=RR;unfold refLay at hRr;obtain ⟨HRd,HKD⟩:=hd2 hRr hk;clear hRr hv r1 r2 hr hle hk
 go_enter Tryz.func94,Tryz.ntmps94
 go_upto_region 1 with fail
 have hb0:=blA w (layO l a1 c1 a2 c2 44);have hx:=Box9.alloc w (.int .i64 l.kind) (.int .i64 l.frm) (.int .i64 l.out) (.int .i64 l.kh) (.int .i64 l.kw) (.int .i64 l.stride) (.int .i64 l.pad) (.slice a1 l.weights.length c1) (.slice a2 l.bias.length c2) 44;generalize w.alloc (layO l a1 c1 a2 c2 44)=W at *;obtain ⟨HB,HX⟩:=hd2 hb0 hx;clear hx hb0;obtain ⟨x0,x1,x2,x3,x4,x5,x6,x7,x8,xlt⟩:=HX.out;have C1:Hid (∀ W,Calls Tryz.prog 136 #[.int .i64 l.kh,.int .i64 1,.int .i64 64] W fun e w'=>e=.returned (.bool (sidB l.kh))/\W=w'):=fun W=>by rw [<- wthn_sid];exact r12Within _ _ _ W
 have C2:Hid (∀ W,Calls Tryz.prog 136 #[.int .i64 l.kw,.int .i64 1,.int .i64 64] W fun e w'=>e=.returned (.bool (sidB l.kw))/\W=w'):=fun W=>by rw [<- wthn_sid];exact r12Within _ _ _ W
 have C3:Hid (∀ W,Calls Tryz.prog 136 #[.int .i64 l.stride,.int .i64 1,.int .i64 64] W fun e w'=>e=.returned (.bool (sidB l.stride))/\W=w'):=fun W=>by rw [<- wthn_sid];exact r12Within _ _ _ W
 go_cut [5] (fun s5 wx=>Hid (.bool (kerB l)=s5)/\Hid (W=wx))
 case first=>
  have HK:Hid (kerB l=(sidB l.kh && (sidB l.kw && sidB l.stride))):=rfl
  cases e1:sidB l.kh with
  | false=>
   rw [e1] at C1 HK;clear e1
   go_wp2_with fail
   refine (C1.out _).mono ?_
   rintro e w' ⟨rfl,rfl⟩
   go_wp2_with fail
   go_meet
   exact ⟨by unfold Hid;rw [HK.out];rfl,rfl⟩
  | true=>
   rw [e1] at C1 HK;clear e1
   cases e2:sidB l.kw with
   | false=>
    rw [e2] at C2 HK;clear e2
    go_wp2_with fail
    refine (C1.out _).mono ?_
    rintro e w' ⟨rfl,rfl⟩
    go_wp2_with fail
    refine (C2.out _).mono ?_
    rintro e w' ⟨rfl,rfl⟩
    go_wp2_with fail
    go_meet
    exact ⟨by unfold Hid;rw [HK.out];rfl,rfl⟩
   | true=>
    rw [e2] at C2 HK;clear e2;generalize sidB l.stride=z at *
    go_wp2_with fail
    refine (C1.out _).mono ?_
    rintro e w' ⟨rfl,rfl⟩
    go_wp2_with fail
    refine (C2.out _).mono ?_
    rintro e w' ⟨rfl,rfl⟩
    go_wp2_with fail
    refine (C3.out _).mono ?_
    rintro e w' ⟨rfl,rfl⟩
    go_wp2_with fail
    go_meet
    exact ⟨by unfold Hid;rw [HK.out];rfl,rfl⟩
 case rest=>
  obtain ⟨hs,hwx⟩:=hcut;have e1:=hs.out;have e2:=hwx.out;clear hs hwx;subst e1;subst e2
  go_upto_region 2 with fail
  go_cut [6] (fun s6 wx=>Hid (.bool (noneL l)=s6)/\Hid (W=wx))
  case first=>
   have HK:Hid (noneL l=(((l.weights.length:Int)==0) && ((l.bias.length:Int)==0))):=rfl
   cases f0:((l.weights.length:Int)==0) with
   | false=>
    go_wp2_with fail
    go_meet
    exact ⟨by unfold Hid;rw [HK.out,f0];rfl,rfl⟩
   | true=>
    cases f1:((l.bias.length:Int)==0) with
    | false=>
     go_wp2_with fail
     go_meet
     exact ⟨by unfold Hid;rw [HK.out,f0,f1];rfl,rfl⟩
    | true=>
     go_wp2_with fail
     go_meet
     exact ⟨by unfold Hid;rw [HK.out,f0,f1];rfl,rfl⟩
  case rest=>
   obtain ⟨hs,hwx⟩:=hcut;have e1:=hs.out;have e2:=hwx.out;clear hs hwx;subst e1;subst e2
   go_upto_region 3 with fail
   go_cut [7] (fun s7 wx=>Hid (.bool (flatB l)=s7)/\Hid (W=wx))
   case first=>
    have HK:Hid (flatB l=((l.kh==0) && ((l.kw==0) && ((l.stride==0) && (l.pad==0))))):=rfl
    cases f0:(l.kh==0) with
    | false=>
     go_wp2_with fail
     go_meet
     exact ⟨by unfold Hid;rw [HK.out,f0];rfl,rfl⟩
    | true=>
     cases f1:(l.kw==0) with
     | false=>
      go_wp2_with fail
      go_meet
      exact ⟨by unfold Hid;rw [HK.out,f0,f1];rfl,rfl⟩
     | true=>
      cases f2:(l.stride==0) with
      | false=>
       go_wp2_with fail
       go_meet
       exact ⟨by unfold Hid;rw [HK.out,f0,f1,f2];rfl,rfl⟩
      | true=>
       cases f3:(l.pad==0) with
       | false=>
        go_wp2_with fail
        go_meet
        exact ⟨by unfold Hid;rw [HK.out,f0,f1,f2,f3];rfl,rfl⟩
       | true=>
        go_wp2_with fail
        go_meet
        exact ⟨by unfold Hid;rw [HK.out,f0,f1,f2,f3];rfl,rfl⟩
   case rest=>
    obtain ⟨hs,hwx⟩:=hcut;have e1:=hs.out;have e2:=hwx.out;clear hs hwx;subst e1;subst e2
    go_upto_region 4 with fail
    obtain ⟨K,hK⟩:∃ K,kerB l=K:=⟨_,rfl⟩
    have HKe:=hid hK;rw [hK] at HRd ⊢;clear hK;generalize noneL l=NB at *;generalize flatB l=FB at *;have CA:=hid (r12Canonical c1 (R1.out.below HB.out) HLe.out.wts)
    cases h1:l.weights.all validR with
    | false=>
     have HF:Hid (RR=false):=by unfold Hid;rw [<- HRd.out,h1];rfl
     rw [h1] at CA;clear h1
     go_wp2_with fail
     refine CA.out.mono ?_
     rintro e w1 ⟨rfl,hb1⟩;have HB1:=htr HB hb1;clear hb1 x0 x1 x2 x3 x4 x5 x6 x7 x8;go_wp2;go_ret;exact ⟨ret_bool HF.out.symm,HB1.out⟩
    | true=>
     rw [h1] at CA;have HE1:=hid h1;clear h1
     go_wp2_with fail
     refine CA.out.mono ?_
     rintro e w1 ⟨rfl,hb1⟩;have HB1:=htr HB hb1;have HX1:=hid (HX.out.below hb1);clear hb1 x0 x1 x2 x3 x4 x5 x6 x7 x8 xlt CA;obtain ⟨x0,x1,x2,x3,x4,x5,x6,x7,x8,xlt⟩:=HX1.out;have CB:=hid (r12Canonical c2 (R2.out.below HB1.out) HLe.out.bias)
     cases h2:l.bias.all validR with
     | false=>
      have HF:Hid (RR=false):=by unfold Hid;rw [<- HRd.out,HE1.out,h2];rfl
      rw [h2] at CB;clear h2
      go_wp2_with fail
      refine CB.out.mono ?_
      rintro e w2 ⟨rfl,hb2⟩;have HB2:=htr HB1 hb2;clear hb2 x0 x1 x2 x3 x4 x5 x6 x7 x8;go_wp2;go_ret;exact ⟨ret_bool HF.out.symm,HB2.out⟩
     | true=>
      rw [h2] at CB;have HE2:=hid h2;clear h2
      go_wp2_with fail
      refine CB.out.mono ?_
      rintro e w2 ⟨rfl,hb2⟩;have HB2:=htr HB1 hb2;have HX2:=hid (HX1.out.below hb2);clear hb2 x0 x1 x2 x3 x4 x5 x6 x7 x8 xlt CB;obtain ⟨x0,x1,x2,x3,x4,x5,x6,x7,x8,xlt⟩:=HX2.out;have hk:=HKD.out;have HRk:Hid ((false)=RR):=by
       have h:=HRd.out;rw [HE1.out,HE2.out,Bool.true_and,Bool.true_and,if_neg (by omega),if_neg (by omega),if_neg (by omega),if_neg (by omega),if_neg (by omega)] at h;exact h
      have k1:(l.kind==1)=false:=by rw [beq_eq_false_iff_ne];omega
      have k2:(l.kind==2)=false:=by rw [beq_eq_false_iff_ne];omega
      have k3:(l.kind==3)=false:=by rw [beq_eq_false_iff_ne];omega
      have k4:(l.kind==4)=false:=by rw [beq_eq_false_iff_ne];omega
      have k5:(l.kind==5)=false:=by rw [beq_eq_false_iff_ne];omega
      have k6:(l.kind==6)=false:=by rw [beq_eq_false_iff_ne];omega
      have k7:(l.kind==7)=false:=by rw [beq_eq_false_iff_ne];omega
      clear hk;have HR:Hid (RR=false):=HRk.out.symm;go_wp2;go_ret;exact ⟨ret_bool HR.out.symm,HB2.out⟩
theorem r12Layer5 {w:World} {v:Value} {l:LayL} (hv:LayV w v l) (hr:LayRange l) (hle:LayLe l) (i:Int) (hi:0<=i) (hi2:i<=1000000) (hk:l.kind=5):
  Calls Tryz.prog 94 #[v,.int .i64 i] w fun e w'=>e=.returned (.bool (layOK l i))/\Below w.heap.size w w':=by
 rw [<- refLay_eq];obtain ⟨a1,a2,c1,c2,rfl,r1,r2⟩:=hv.ex;have q1:=r1.len;have q2:=r2.len;obtain ⟨R1,R2,HLe⟩:=hd3 r1 r2 hle;generalize hRr:refLay l i=RR;unfold refLay at hRr;obtain ⟨HRd,HKD⟩:=hd2 hRr hk;clear hRr hv r1 r2 hr hle hk
 go_enter Tryz.func94,Tryz.ntmps94
 go_upto_region 1 with fail
 have hb0:=blA w (layO l a1 c1 a2 c2 44);have hx:=Box9.alloc w (.int .i64 l.kind) (.int .i64 l.frm) (.int .i64 l.out) (.int .i64 l.kh) (.int .i64 l.kw) (.int .i64 l.stride) (.int .i64 l.pad) (.slice a1 l.weights.length c1) (.slice a2 l.bias.length c2) 44;generalize w.alloc (layO l a1 c1 a2 c2 44)=W at *;obtain ⟨HB,HX⟩:=hd2 hb0 hx;clear hx hb0;obtain ⟨x0,x1,x2,x3,x4,x5,x6,x7,x8,xlt⟩:=HX.out;have C1:Hid (∀ W,Calls Tryz.prog 136 #[.int .i64 l.kh,.int .i64 1,.int .i64 64] W fun e w'=>e=.returned (.bool (sidB l.kh))/\W=w'):=fun W=>by rw [<- wthn_sid];exact r12Within _ _ _ W
 have C2:Hid (∀ W,Calls Tryz.prog 136 #[.int .i64 l.kw,.int .i64 1,.int .i64 64] W fun e w'=>e=.returned (.bool (sidB l.kw))/\W=w'):=fun W=>by rw [<- wthn_sid];exact r12Within _ _ _ W
 have C3:Hid (∀ W,Calls Tryz.prog 136 #[.int .i64 l.stride,.int .i64 1,.int .i64 64] W fun e w'=>e=.returned (.bool (sidB l.stride))/\W=w'):=fun W=>by rw [<- wthn_sid];exact r12Within _ _ _ W
 go_cut [5] (fun s5 wx=>Hid (.bool (kerB l)=s5)/\Hid (W=wx))
 case first=>
  have HK:Hid (kerB l=(sidB l.kh && (sidB l.kw && sidB l.stride))):=rfl
  cases e1:sidB l.kh with
  | false=>
   rw [e1] at C1 HK;clear e1
   go_wp2_with fail
   refine (C1.out _).mono ?_
   rintro e w' ⟨rfl,rfl⟩
   go_wp2_with fail
   go_meet
   exact ⟨by unfold Hid;rw [HK.out];rfl,rfl⟩
  | true=>
   rw [e1] at C1 HK;clear e1
   cases e2:sidB l.kw with
   | false=>
    rw [e2] at C2 HK;clear e2
    go_wp2_with fail
    refine (C1.out _).mono ?_
    rintro e w' ⟨rfl,rfl⟩
    go_wp2_with fail
    refine (C2.out _).mono ?_
    rintro e w' ⟨rfl,rfl⟩
    go_wp2_with fail
    go_meet
    exact ⟨by unfold Hid;rw [HK.out];rfl,rfl⟩
   | true=>
    rw [e2] at C2 HK;clear e2;generalize sidB l.stride=z at *
    go_wp2_with fail
    refine (C1.out _).mono ?_
    rintro e w' ⟨rfl,rfl⟩
    go_wp2_with fail
    refine (C2.out _).mono ?_
    rintro e w' ⟨rfl,rfl⟩
    go_wp2_with fail
    refine (C3.out _).mono ?_
    rintro e w' ⟨rfl,rfl⟩
    go_wp2_with fail
    go_meet
    exact ⟨by unfold Hid;rw [HK.out];rfl,rfl⟩
 case rest=>
  obtain ⟨hs,hwx⟩:=hcut;have e1:=hs.out;have e2:=hwx.out;clear hs hwx;subst e1;subst e2
  go_upto_region 2 with fail
  go_cut [6] (fun s6 wx=>Hid (.bool (noneL l)=s6)/\Hid (W=wx))
  case first=>
   have HK:Hid (noneL l=(((l.weights.length:Int)==0) && ((l.bias.length:Int)==0))):=rfl
   cases f0:((l.weights.length:Int)==0) with
   | false=>
    go_wp2_with fail
    go_meet
    exact ⟨by unfold Hid;rw [HK.out,f0];rfl,rfl⟩
   | true=>
    cases f1:((l.bias.length:Int)==0) with
    | false=>
     go_wp2_with fail
     go_meet
     exact ⟨by unfold Hid;rw [HK.out,f0,f1];rfl,rfl⟩
    | true=>
     go_wp2_with fail
     go_meet
     exact ⟨by unfold Hid;rw [HK.out,f0,f1];rfl,rfl⟩
  case rest=>
   obtain ⟨hs,hwx⟩:=hcut;have e1:=hs.out;have e2:=hwx.out;clear hs hwx;subst e1;subst e2
   go_upto_region 3 with fail
   go_cut [7] (fun s7 wx=>Hid (.bool (flatB l)=s7)/\Hid (W=wx))
   case first=>
    have HK:Hid (flatB l=((l.kh==0) && ((l.kw==0) && ((l.stride==0) && (l.pad==0))))):=rfl
    cases f0:(l.kh==0) with
    | false=>
     go_wp2_with fail
     go_meet
     exact ⟨by unfold Hid;rw [HK.out,f0];rfl,rfl⟩
    | true=>
     cases f1:(l.kw==0) with
     | false=>
      go_wp2_with fail
      go_meet
      exact ⟨by unfold Hid;rw [HK.out,f0,f1];rfl,rfl⟩
     | true=>
      cases f2:(l.stride==0) with
      | false=>
       go_wp2_with fail
       go_meet
       exact ⟨by unfold Hid;rw [HK.out,f0,f1,f2];rfl,rfl⟩
      | true=>
       cases f3:(l.pad==0) with
       | false=>
        go_wp2_with fail
        go_meet
        exact ⟨by unfold Hid;rw [HK.out,f0,f1,f2,f3];rfl,rfl⟩
       | true=>
        go_wp2_with fail
        go_meet
        exact ⟨by unfold Hid;rw [HK.out,f0,f1,f2,f3];rfl,rfl⟩
   case rest=>
    obtain ⟨hs,hwx⟩:=hcut;have e1:=hs.out;have e2:=hwx.out;clear hs hwx;subst e1;subst e2
    go_upto_region 4 with fail
    obtain ⟨K,hK⟩:∃ K,kerB l=K:=⟨_,rfl⟩
    have HKe:=hid hK;rw [hK] at HRd ⊢;clear hK;generalize noneL l=NB at *;generalize flatB l=FB at *;have CA:=hid (r12Canonical c1 (R1.out.below HB.out) HLe.out.wts)
    cases h1:l.weights.all validR with
    | false=>
     have HF:Hid (RR=false):=by unfold Hid;rw [<- HRd.out,h1];rfl
     rw [h1] at CA;clear h1
     go_wp2_with fail
     refine CA.out.mono ?_
     rintro e w1 ⟨rfl,hb1⟩;have HB1:=htr HB hb1;clear hb1 x0 x1 x2 x3 x4 x5 x6 x7 x8;go_wp2;go_ret;exact ⟨ret_bool HF.out.symm,HB1.out⟩
    | true=>
     rw [h1] at CA;have HE1:=hid h1;clear h1
     go_wp2_with fail
     refine CA.out.mono ?_
     rintro e w1 ⟨rfl,hb1⟩;have HB1:=htr HB hb1;have HX1:=hid (HX.out.below hb1);clear hb1 x0 x1 x2 x3 x4 x5 x6 x7 x8 xlt CA;obtain ⟨x0,x1,x2,x3,x4,x5,x6,x7,x8,xlt⟩:=HX1.out;have CB:=hid (r12Canonical c2 (R2.out.below HB1.out) HLe.out.bias)
     cases h2:l.bias.all validR with
     | false=>
      have HF:Hid (RR=false):=by unfold Hid;rw [<- HRd.out,HE1.out,h2];rfl
      rw [h2] at CB;clear h2
      go_wp2_with fail
      refine CB.out.mono ?_
      rintro e w2 ⟨rfl,hb2⟩;have HB2:=htr HB1 hb2;clear hb2 x0 x1 x2 x3 x4 x5 x6 x7 x8;go_wp2;go_ret;exact ⟨ret_bool HF.out.symm,HB2.out⟩
     | true=>
      rw [h2] at CB;have HE2:=hid h2;clear h2
      go_wp2_with fail
      refine CB.out.mono ?_
      rintro e w2 ⟨rfl,hb2⟩;have HB2:=htr HB1 hb2;have HX2:=hid (HX1.out.below hb2);clear hb2 x0 x1 x2 x3 x4 x5 x6 x7 x8 xlt CB;obtain ⟨x0,x1,x2,x3,x4,x5,x6,x7,x8,xlt⟩:=HX2.out;have hk:=HKD.out;have HRk:Hid ((FB && ((l.frm==0) && ((l.out==0) && NB)))=RR):=by
       have h:=HRd.out;rw [HE1.out,HE2.out,Bool.true_and,Bool.true_and,if_neg (by omega),if_neg (by omega),if_neg (by omega),if_pos (by omega)] at h;exact h
      have k1:(l.kind==1)=false:=by rw [beq_eq_false_iff_ne];omega
      have k2:(l.kind==2)=false:=by rw [beq_eq_false_iff_ne];omega
      have k3:(l.kind==3)=false:=by rw [beq_eq_false_iff_ne];omega
      have k4:(l.kind==4)=false:=by rw [beq_eq_false_iff_ne];omega
      have k5:(l.kind==5)=true:=by rw [beq_iff_eq];omega
      clear hk
      cases FB with
      | false=>
       have HR:Hid (RR=false):=by unfold Hid;rw [<- HRk.out];rfl
       go_wp2;go_ret;exact ⟨ret_bool HR.out.symm,HB2.out⟩
      | true=>
       cases g1:(l.frm==0) with
       | false=>
        have HR:Hid (RR=false):=by unfold Hid;rw [<- HRk.out,g1];rfl
        go_wp2;go_ret;exact ⟨ret_bool HR.out.symm,HB2.out⟩
       | true=>
        cases g2:(l.out==0) with
        | false=>
         have HR:Hid (RR=false):=by unfold Hid;rw [<- HRk.out,g1,g2];rfl
         go_wp2;go_ret;exact ⟨ret_bool HR.out.symm,HB2.out⟩
        | true=>
         cases NB with
         | false=>
          have HR:Hid (RR=false):=by unfold Hid;rw [<- HRk.out,g1,g2];rfl
          go_wp2;go_ret;exact ⟨ret_bool HR.out.symm,HB2.out⟩
         | true=>
          have HR:Hid (RR=true):=by unfold Hid;rw [<- HRk.out,g1,g2];rfl
          go_wp2;go_ret;exact ⟨ret_bool HR.out.symm,HB2.out⟩
end Go.Proofs.YtfgmmghmmfmdgaaGreat
