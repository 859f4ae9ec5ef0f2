/-
  Contracts: ModQA.
-/
import Derived.Test.YtfgmmghmmfmdgaaGreatO22
import Derived.Test.YtfgmmghmmfmdgaaGreatO0
set_option linter.all false
set_option maxRecDepth 100000
set_option maxHeartbeats 3200000
namespace Go.Proofs.YtfgmmghmmfmdgaaGreat
open Go.RowKit
open Go.Lib (hid)
variable {P:Prop}
theorem Ou(h:P:=by rintro e w' ⟨rfl,rfl⟩;go_wp2_with fail;go_meet;exact⟨Yj,rfl⟩):P:=h
theorem UB(h:P:=by
 have HK:Hid (zdo l=(zc6 l.kh && (zc6 l.kw && zc6 l.stride))):=rfl
 cases e1:zc6 l.kh with
 | false=>
  rw[e1]at C1 HK;clear e1
  go_wp2_with fail
  refine(C1.out _).mono ?_
  exact Ou
 | true=>
  rw[e1]at C1 HK;clear e1
  cases e2:zc6 l.kw with
  | false=>
   rw[e2]at C2 HK;clear e2
   go_wp2_with fail
   refine(C1.out _).mono ?_
   rintro e w' ⟨rfl,rfl⟩
   go_wp2_with fail
   refine(C2.out _).mono ?_
   exact Ou
  | true=>
   rw[e2]at C2 HK;clear e2;generalize zc6 l.stride=z at *
   go_wp2_with fail
   refine(C1.out _).mono ?_
   rintro e w' ⟨rfl,rfl⟩
   go_wp2_with fail
   refine(C2.out _).mono ?_
   rintro e w' ⟨rfl,rfl⟩
   go_wp2_with fail
   refine(C3.out _).mono ?_
   exact Ou
):P:=h
theorem UM(h:P:=by
 have HK:Hid (zci l=((l.kh==0) && ((l.kw==0) && ((l.stride==0) && (l.pad==0))))):=rfl
 cases f0:(l.kh==0)with
 | false=>
  go_wp2_with fail
  go_meet
  exact⟨Yn,rfl⟩
 | true=>
  cases f1:(l.kw==0)with
  | false=>
   go_wp2_with fail
   go_meet
   exact⟨Yh,rfl⟩
  | true=>
   cases f2:(l.stride==0)with
   | false=>
    go_wp2_with fail
    go_meet
    exact⟨Yx,rfl⟩
   | true=>
    cases f3:(l.pad==0)with
    | false=>
     go_wp2_with fail
     go_meet
     exact⟨Yk,rfl⟩
    | true=>
     go_wp2_with fail
     go_meet
     exact⟨Yk,rfl⟩
):P:=h
theorem Ti(h:P:=by
 have HK:Hid (zcu l=(((l.weights.length:Int)==0) && ((l.bias.length:Int)==0))):=rfl
 cases f0:((l.weights.length:Int)==0)with
 | false=>
  go_wp2_with fail
  go_meet
  exact⟨Yn,rfl⟩
 | true=>
  cases f1:((l.bias.length:Int)==0)with
  | false=>
   go_wp2_with fail
   go_meet
   exact⟨Yh,rfl⟩
  | true=>
   go_wp2_with fail
   go_meet
   exact⟨Yh,rfl⟩
):P:=h
theorem zoc{w:World}{v:Value}{l:zac}(hv:zcV w v l)(hr:zQ l)(hle:zbF l)(i:Int)(hi:0<=i)(hi2:i<=1000000)(hk:l.kind=1):
  Calls Tryz.prog 94 #[v,.int .i64 i] w fun e w'=>e=.returned (.bool (zai l i))/\Below w.heap.size w w':=by
 rw[<- zcg];obtain⟨a1,a2,c1,c2,rfl,r1,r2⟩:=hv.ex;have q1:=r1.len;have q2:=r2.len;obtain⟨R1,R2,HLe⟩:=hd3 r1 r2 hle;generalize hRr:zbY l i=RR;unfold zbY at hRr;obtain⟨HRd,HKD⟩:=hd2 hRr hk;clear hRr hv r1 r2 hr hle hk
 go_enter Tryz.func94,Tryz.ntmps94
 go_upto_region 1 with fail
 have hb0:=blA w (zbG l a1 c1 a2 c2 44);have hx:=b9l w l a1 c1 a2 c2 44;generalize w.alloc (zbG l a1 c1 a2 c2 44)=W at *;obtain⟨HB,HX⟩:=hd2 hb0 hx;clear hx hb0;obtain⟨x0,x1,x2,x3,x4,x5,x6,x7,x8,xlt⟩:=HX.out;have C1:=hid (zgs l.kh);have C2:=hid (zgs l.kw);have C3:=hid (zgs l.stride)
 go_cut [5] (fun s5 wx=>Hid (.bool (zdo l)=s5)/\Hid (W=wx))
 case first=>
  exact UB
 case rest=>
  obtain⟨hs,hwx⟩:=hcut;have e1:=hs.out;have e2:=hwx.out;clear hs hwx;subst e1;subst e2
  go_upto_region 2 with fail
  go_cut [6] (fun s6 wx=>Hid (.bool (zcu l)=s6)/\Hid (W=wx))
  case first=>
   exact Ti
  case rest=>
   obtain⟨hs,hwx⟩:=hcut;have e1:=hs.out;have e2:=hwx.out;clear hs hwx;subst e1;subst e2
   go_upto_region 3 with fail
   go_cut [7] (fun s7 wx=>Hid (.bool (zci l)=s7)/\Hid (W=wx))
   case first=>
    exact UM
   case rest=>
    obtain⟨hs,hwx⟩:=hcut;have e1:=hs.out;have e2:=hwx.out;clear hs hwx;subst e1;subst e2
    go_upto_region 4 with fail
    obtain⟨K,hK⟩:∃K,zdo l=K:=⟨_,rfl⟩
    have HKe:=hid hK;rw[hK]at HRd⊢;clear hK;generalize zcu l=NB at *;generalize zci l=FB at *;have CA:=hid (zab c1 (R1.out.below HB.out) HLe.out.wts)
    cases h1:l.weights.all zP with
    | false=>
     have HF:Hid (RR=false):=Y1;rw[h1]at CA;clear h1
     go_wp2_with fail
     refine CA.out.mono ?_
     rintro e w1 ⟨rfl,hb1⟩;have HB1:=htr HB hb1;clear hb1 x0 x1 x2 x3 x4 x5 x6 x7 x8;go_wp2;go_ret;exact⟨zi HF.out.symm,HB1.out⟩
    | true=>
     rw[h1]at CA;have HE1:=hid h1;clear h1
     go_wp2_with fail
     refine CA.out.mono ?_
     rintro e w1 ⟨rfl,hb1⟩;have HB1:=htr HB hb1;have HX1:=hid (HX.out.below hb1);clear hb1 x0 x1 x2 x3 x4 x5 x6 x7 x8 xlt CA;obtain⟨x0,x1,x2,x3,x4,x5,x6,x7,x8,xlt⟩:=HX1.out;have CB:=hid (zab c2 (R2.out.below HB1.out) HLe.out.bias)
     cases h2:l.bias.all zP with
     | false=>
      have HF:Hid (RR=false):=Yt;rw[h2]at CB;clear h2
      go_wp2_with fail
      refine CB.out.mono ?_
      rintro e w2 ⟨rfl,hb2⟩;have HB2:=htr HB1 hb2;clear hb2 x0 x1 x2 x3 x4 x5 x6 x7 x8;go_wp2;go_ret;exact⟨zi HF.out.symm,HB2.out⟩
     | true=>
      rw[h2]at CB;have HE2:=hid h2;clear h2
      go_wp2_with fail
      refine CB.out.mono ?_
      rintro e w2 ⟨rfl,hb2⟩;have HB2:=htr HB1 hb2;have HX2:=hid (HX1.out.below hb2);clear hb2 x0 x1 x2 x3 x4 x5 x6 x7 x8 xlt CB;obtain⟨x0,x1,x2,x3,x4,x5,x6,x7,x8,xlt⟩:=HX2.out;have hk:=HKD.out;have HRk:Hid ((FB && ((l.frm==0) && (zi0 l.out 1 16384 && (((l.bias.length:Int)==l.out) && zfy l.weights.length l.out))))=RR):=by
       have h:=HRd.out;rw[HE1.out,HE2.out,Z4,Z4,Zm hk]at h;exact h
      have k1:(l.kind==1)=true:=Yq;clear hk
      cases FB with
      | false=>
       have HR:Hid (RR=false):=YB;go_wp2;go_ret;exact U7
      | true=>
       cases g1:(l.frm==0)with
       | false=>
        have HR:Hid (RR=false):=YH;go_wp2;go_ret;exact U7
       | true=>
        have HW2:=hid (fun W=>zfd l.out 1 16384 W)
        cases g2:zi0 l.out 1 16384 with
        | false=>
         have HG2:=hid g2;rw[g2]at HW2;clear g2;have HR:Hid (RR=false):=by unfold Hid;rw[<- HRk.out,g1,HG2.out];rfl
         go_wp2_with fail
         refine(HW2.out _).mono ?_
         rintro e w' ⟨rfl,rfl⟩;go_wp2;go_ret;exact U7
        | true=>
         have HG2:=hid g2;rw[g2]at HW2;obtain⟨o1,o2⟩:=zld.1 g2;clear g2
         cases g3:((l.bias.length:Int)==l.out)with
         | false=>
          have HR:Hid (RR=false):=Jq
          go_wp2_with fail
          refine(HW2.out _).mono ?_
          rintro e w' ⟨rfl,rfl⟩;go_wp2;go_ret;exact U7
         | true=>
          have HM:=hid (fun W=>zgA l.weights.length l.out q1 Ya Ya W);have HR:Hid (RR=zfy l.weights.length l.out):=Jq;generalize zfy l.weights.length l.out=mb at *
          go_wp2_with fail
          refine(HW2.out _).mono ?_
          rintro e w' ⟨rfl,rfl⟩
          go_wp2_with fail
          refine(HM.out _).mono ?_
          rintro e w' ⟨rfl,rfl⟩;go_wp2;go_ret;exact U7
theorem zmI{w:World}{v:Value}{l:zac}(hv:zcV w v l)(hr:zQ l)(hle:zbF l)(i:Int)(hi:0<=i)(hi2:i<=1000000)(hk:l.kind=2):
  Calls Tryz.prog 94 #[v,.int .i64 i] w fun e w'=>e=.returned (.bool (zai l i))/\Below w.heap.size w w':=by
 rw[<- zcg];obtain⟨a1,a2,c1,c2,rfl,r1,r2⟩:=hv.ex;have q1:=r1.len;have q2:=r2.len;obtain⟨R1,R2,HLe⟩:=hd3 r1 r2 hle;generalize hRr:zbY l i=RR;unfold zbY at hRr;obtain⟨HRd,HKD⟩:=hd2 hRr hk;clear hRr hv r1 r2 hr hle hk
 go_enter Tryz.func94,Tryz.ntmps94
 go_upto_region 1 with fail
 have hb0:=blA w (zbG l a1 c1 a2 c2 44);have hx:=b9l w l a1 c1 a2 c2 44;generalize w.alloc (zbG l a1 c1 a2 c2 44)=W at *;obtain⟨HB,HX⟩:=hd2 hb0 hx;clear hx hb0;obtain⟨x0,x1,x2,x3,x4,x5,x6,x7,x8,xlt⟩:=HX.out;have C1:=hid (zgs l.kh);have C2:=hid (zgs l.kw);have C3:=hid (zgs l.stride)
 go_cut [5] (fun s5 wx=>Hid (.bool (zdo l)=s5)/\Hid (W=wx))
 case first=>
  exact UB
 case rest=>
  obtain⟨hs,hwx⟩:=hcut;have e1:=hs.out;have e2:=hwx.out;clear hs hwx;subst e1;subst e2
  go_upto_region 2 with fail
  go_cut [6] (fun s6 wx=>Hid (.bool (zcu l)=s6)/\Hid (W=wx))
  case first=>
   exact Ti
  case rest=>
   obtain⟨hs,hwx⟩:=hcut;have e1:=hs.out;have e2:=hwx.out;clear hs hwx;subst e1;subst e2
   go_upto_region 3 with fail
   go_cut [7] (fun s7 wx=>Hid (.bool (zci l)=s7)/\Hid (W=wx))
   case first=>
    exact UM
   case rest=>
    obtain⟨hs,hwx⟩:=hcut;have e1:=hs.out;have e2:=hwx.out;clear hs hwx;subst e1;subst e2
    go_upto_region 4 with fail
    obtain⟨K,hK⟩:∃K,zdo l=K:=⟨_,rfl⟩
    have HKe:=hid hK;rw[hK]at HRd⊢;clear hK;generalize zcu l=NB at *;generalize zci l=FB at *;have CA:=hid (zab c1 (R1.out.below HB.out) HLe.out.wts)
    cases h1:l.weights.all zP with
    | false=>
     have HF:Hid (RR=false):=Y1;rw[h1]at CA;clear h1
     go_wp2_with fail
     refine CA.out.mono ?_
     rintro e w1 ⟨rfl,hb1⟩;have HB1:=htr HB hb1;clear hb1 x0 x1 x2 x3 x4 x5 x6 x7 x8;go_wp2;go_ret;exact⟨zi HF.out.symm,HB1.out⟩
    | true=>
     rw[h1]at CA;have HE1:=hid h1;clear h1
     go_wp2_with fail
     refine CA.out.mono ?_
     rintro e w1 ⟨rfl,hb1⟩;have HB1:=htr HB hb1;have HX1:=hid (HX.out.below hb1);clear hb1 x0 x1 x2 x3 x4 x5 x6 x7 x8 xlt CA;obtain⟨x0,x1,x2,x3,x4,x5,x6,x7,x8,xlt⟩:=HX1.out;have CB:=hid (zab c2 (R2.out.below HB1.out) HLe.out.bias)
     cases h2:l.bias.all zP with
     | false=>
      have HF:Hid (RR=false):=Yt;rw[h2]at CB;clear h2
      go_wp2_with fail
      refine CB.out.mono ?_
      rintro e w2 ⟨rfl,hb2⟩;have HB2:=htr HB1 hb2;clear hb2 x0 x1 x2 x3 x4 x5 x6 x7 x8;go_wp2;go_ret;exact⟨zi HF.out.symm,HB2.out⟩
     | true=>
      rw[h2]at CB;have HE2:=hid h2;clear h2
      go_wp2_with fail
      refine CB.out.mono ?_
      rintro e w2 ⟨rfl,hb2⟩;have HB2:=htr HB1 hb2;have HX2:=hid (HX1.out.below hb2);clear hb2 x0 x1 x2 x3 x4 x5 x6 x7 x8 xlt CB;obtain⟨x0,x1,x2,x3,x4,x5,x6,x7,x8,xlt⟩:=HX2.out;have hk:=HKD.out;have HRk:Hid ((K && ((l.frm==0) && (decide (0<=l.pad) && (decide (l.pad<l.kh) && (decide (l.pad<l.kw) && (zi0 l.out 1 16384 && (((l.bias.length:Int)==l.out) && zfy l.weights.length (l.out*l.kh*l.kw))))))))=RR):=by
       have h:=HRd.out;rw[HE1.out,HE2.out,Z4,Z4,Zg Ya,Zm hk]at h;exact h
      have k1:(l.kind==1)=false:=bn0 Ya;have k2:(l.kind==2)=true:=Yq;clear hk
      cases K with
      | false=>
       have HR:Hid (RR=false):=YB;go_wp2;go_ret;exact U7
      | true=>
       cases g1:(l.frm==0)with
       | false=>
        have HR:Hid (RR=false):=YH;go_wp2;go_ret;exact U7
       | true=>
        by_cases g2:0<=l.pad
        ·by_cases g3:l.pad<l.kh
         ·by_cases g4:l.pad<l.kw
          ·have HW5:=hid (fun W=>zfd l.out 1 16384 W)
           cases g5:zi0 l.out 1 16384 with
           | false=>
            have HG5:=hid g5;rw[g5]at HW5;clear g5;have HR:Hid (RR=false):=by unfold Hid;rw[<- HRk.out,g1,Zk g2,Zk g3,Zk g4,HG5.out];rfl
            go_wp2_with fail
            refine(HW5.out _).mono ?_
            rintro e w' ⟨rfl,rfl⟩;go_wp2;go_ret;exact U7
           | true=>
            have HG5:=hid g5;rw[g5]at HW5;obtain⟨o1,o2⟩:=zld.1 g5;clear g5
            cases g6:((l.bias.length:Int)==l.out)with
            | false=>
             have HR:Hid (RR=false):=YL
             go_wp2_with fail
             refine(HW5.out _).mono ?_
             rintro e w' ⟨rfl,rfl⟩;go_wp2;go_ret;exact U7
            | true=>
             obtain⟨⟨u1,u2⟩,⟨u3,u4⟩,_⟩:(1<=l.kh/\l.kh<=64)/\(1<=l.kw/\l.kw<=64)/\(1<=l.stride/\l.stride<=64):=by have e2:=HKe.out;unfold zdo zc6 at e2;simpa using e2
             obtain⟨⟨m1,m2⟩,m3,m4⟩:=znQ o1 o2 u1 u2 u3 u4;have HM:=hid (fun W=>zgA l.weights.length (l.out*l.kh*l.kw) q1 Ya Ya W);have HR:Hid (RR=zfy l.weights.length (l.out*l.kh*l.kw)):=YL;generalize zfy l.weights.length (l.out*l.kh*l.kw)=mb at *
             go_wp2_with fail
             refine(HW5.out _).mono ?_
             rintro e w' ⟨rfl,rfl⟩
             go_wp2_with fail
             refine(HM.out _).mono ?_
             rintro e w' ⟨rfl,rfl⟩;go_wp2;go_ret;exact U7
          ·have HR:Hid (RR=false):=by unfold Hid;rw[<- HRk.out,g1,Zk g2,Zk g3,Zj g4];rfl
           go_wp2;go_ret;exact U7
         ·have HR:Hid (RR=false):=by unfold Hid;rw[<- HRk.out,g1,Zk g2,Zj g3];rfl
          go_wp2;go_ret;exact U7
        ·have HR:Hid (RR=false):=by unfold Hid;rw[<- HRk.out,g1,Zj g2];rfl
         go_wp2;go_ret;exact U7
