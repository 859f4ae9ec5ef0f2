/-
  Contracts: LqA, LqB0, LqB, LqD, RiG.
-/
import Derived.Test.YtfgmmghmmfmdgaaGreatO30
import Derived.Test.YtfgmmghmmfmdgaaGreatO29
import Derived.Test.YtfgmmghmmfmdgaaGreatO0
set_option linter.all false
set_option maxRecDepth 100000
set_option maxHeartbeats 3200000
namespace Go.Proofs.YtfgmmghmmfmdgaaGreat
open Go.RowKit
open Go.Lib (hid)
variable {P:Prop} {w:World} {L:List zaf} {m:zec} {a1 a2 ax:Option Addr} {nx:Nat}
theorem Ox(h:P:=by refine zcm (HOps.out 13) 32 rfl rfl ?_;exact Up):P:=h
theorem IJ(h:P:=by
 rintro e w' ⟨rfl,hb⟩;exact⟨_,rfl,by rw[(zfA _ _).2 rfl],hb⟩
):P:=h
theorem Vf(h:P:=by simp[results,Tryz.results39,go_sem]):P:=h
theorem zhh{a:Option Addr}(c:Nat)(h:zm w a L)(hL:∀x∈L,zD x 1048576):
  Calls Tryz.prog 15 #[.slice a L.length c] w fun e w'=>e=.returned (.bool (zaR L))/\Below w.heap.size w w':=by
 have q1:=h.len;obtain⟨H,HV⟩:=hd2 h (zl5 c h hL);generalize hR:zaR L=R;unfold zaR at hR;have HR:=hid hR;clear h hL hR
 go_enter Tryz.func15,Tryz.ntmps15
 go_wp2
 go_loopw [3] (fun i wr=>∃j:Nat,j<=L.length/\i=.int .i64 (j:Int)/\Hid ((L.take j).all zbH=true)/\Hid (w=wr)) (fun i _=>L.length-(intOf i).toNat)
 case atStart=>exact⟨0,Zs _,rfl,rfl,rfl⟩
 case round=>
  obtain⟨j,hj,rfl,HA,HW⟩:=hrel;have ew:=HW.out;clear HW;subst ew
  by_cases hlt:j<L.length
  ·obtain⟨b,off,x,an,ad,cn,cd,rfl,hb,hx,x0,x1,x2,hv⟩:=H.out.pick hlt;obtain⟨HT,HM⟩:=hd2 (zmL hx) (Zq hx);clear hx hv
   by_cases g1:x.num.length<=2
   ·by_cases g2:x.den.length<=1
    ·have HA2:Hid ((L.take (j+1)).all zbH=true):=by unfold Hid;rw[HT.out,HA.out];unfold zbH;rw[Zk g1,Zk g2];rfl
     go_wp2;go_roundw
     case rel=>exact⟨j+1,hlt,Yg,HA2.out,XO⟩
     case measure=>simp[intOf];omega
    ·have HF:Hid (R=false):=by
      unfold Hid;have:L.all zbH=false:=by rw[List.all_eq_false];exact⟨x,HM.out,by simp[zbH,g2]⟩
      rw[<- HR.out,this];rfl
     go_wp2;go_ret;exact⟨zi HF.out.symm,Ze _ _⟩
   ·have HF:Hid (R=false):=by
     unfold Hid;have:L.all zbH=false:=by rw[List.all_eq_false];exact⟨x,HM.out,by simp[zbH,g1]⟩
     rw[<- HR.out,this];rfl
    go_wp2;go_ret;exact⟨zi HF.out.symm,Ze _ _⟩
  ·obtain rfl:j=L.length:=Ya;have HE:Hid (L.all zP=R):=by
    have:=HA.out;rw[Zae]at this;unfold Hid;rw[<- HR.out,this];rfl
   go_wp2_with fail
   refine HV.out.mono ?_
   rintro e w' ⟨rfl,hb⟩;have HB:=hid hb;clear hb;rw[HE.out];go_wp2;go_ret;exact⟨rfl,HB.out⟩
theorem zrz{w:World}{m:zec}{a1 a2:Option Addr}(c1 c2:Nat)(h1:zah w Any a1 m.input)(h2:zaK w a2 m.layers)(hs:∀l∈m.layers,zbF l):
  Calls Tryz.prog 11 #[.agg #[.slice a1 m.input.length c1,.slice a2 m.layers.length c2]] w fun e w'=>e=.returned (.bool (zhq m []))/\Below w.heap.size w w':=by
 have q1:=h1.len;have q2:=h2.len;obtain⟨H1,H2,HSh⟩:=hd3 h1 h2 hs;generalize hR:zhq m []=R;unfold zhq at hR;have HRd:=hid hR;have hbA:=blA w (.cells #[.slice a1 m.input.length c1,.slice a2 m.layers.length c2] 25);have hx:=za1.alloc w (.slice a1 m.input.length c1) (.slice a2 m.layers.length c2) 25;clear h1 h2 hR hs
 go_enter Tryz.func11,Tryz.ntmps11
 go_upto_region 1 with fail
 generalize w.alloc (.cells #[.slice a1 m.input.length c1,.slice a2 m.layers.length c2] 25)=W at *;obtain⟨HB,HX⟩:=hd2 hbA hx;clear hbA hx;obtain⟨x0,x1,xf,xlt⟩:=HX.out;have HS:=hid (zmj c1 (H1.out.below HB.out));generalize hsz:zt m.input=sz at *;clear hsz
 by_cases e1:m.layers.length<=8
 case neg=>
  have HF:Hid (R=false):=KF;go_wp2;go_ret;exact⟨zi HF.out.symm,HB.out⟩
 by_cases e2:sz<=30
 case neg=>
  have HF:Hid (R=false):=by unfold Hid;rw[<- HRd.out,Zj e2,Bool.false_and,Zbh]
  have t2:decide (30<sz)=true:=Zk Ya
  go_wp2_with fail
  refine HS.out.mono ?_
  rintro e w' ⟨rfl,rfl⟩;go_wp2;go_ret;exact⟨zi HF.out.symm,HB.out⟩
 have t2:decide (30<sz)=false:=Zj Ya
 by_cases e4:m.input.length<=8
 case neg=>
  have HF:Hid (R=false):=by unfold Hid;rw[<- HRd.out,Zj e4,Bool.false_and,Zbh,Zbh,Zbh]
  go_wp2_with fail
  refine HS.out.mono ?_
  rintro e w' ⟨rfl,rfl⟩;go_wp2;go_ret;exact⟨zi HF.out.symm,HB.out⟩
 have HRe:Hid ((m.layers.all zdN && zaR [])=R):=by have:=HRd.out;rw[Zk e1,Zk e2,Zk e4]at this;exact this
 go_wp2_with fail
 refine HS.out.mono ?_
 rintro e w' ⟨rfl,rfl⟩;go_wp2;clear x0 x1 xf xlt
 go_loopw [3] (fun i wr=>∃j:Nat,j<=m.layers.length/\i=.int .i64 (j:Int)/\Hid ((m.layers.take j).all zdN=true)/\Hid (Below W.heap.size W wr)) (fun i _=>m.layers.length-(intOf i).toNat)
 case atStart=>exact⟨0,Zs _,rfl,rfl,Ze _ _⟩
 case round=>
  obtain⟨j,hj,rfl,HA,HW⟩:=hrel;have HBw:=htr HB HW.out;obtain⟨x0,x1,xf,xlt⟩:=HX.out.below HW.out
  by_cases hlt:j<m.layers.length
  ·obtain⟨bl,ol,l,ha2,hbl,hl,b1,b2,d1,d2,⟨l0,l1,l2,l3,l4,l5,l6,l7,l8⟩,r1,r2⟩:=(H2.out.below HBw.out).pick hlt;have HT:=hid (zn6 hl);have hmem:=Zq hl;have HM:=hid hmem;have hle:=HSh.out l hmem;have p1:=r1.len;have p2:=r2.len;have hal:=blA wr (zbG l b1 d1 b2 d2 44);have HAl:=htr HW hal;obtain⟨HR1,HR2,HBx9⟩:=hd3 (r1.below hal) (r2.below hal) (b9l wr l b1 d1 b2 d2 44);have HNo:Hid (zdN l=false->R=false):=fun hf=>by
    have:m.layers.all zdN=false:=by rw[List.all_eq_false];exact⟨l,HM.out,by simp[hf]⟩
    rw[<- HRe.out,this];rfl
   have HLe:=hid hle;subst ha2;clear hl r1 r2 hal hmem hle
   go_upto_region 7 with fail
   generalize wr.alloc (zbG l b1 d1 b2 d2 44)=wj at *;clear l0 l1 l2 l3 l4 l5 l6 l7 l8;obtain⟨l0,l1,l2,l3,l4,l5,l6,l7,l8,l9⟩:=HBx9.out;have HK1:=hid (zhh d1 HR1.out HLe.out.wts)
   by_cases g1:l.weights.length<=60
   case neg=>
    have HF:Hid (R=false):=HNo.out (by unfold zdN;rw[Zj g1];rfl);go_wp2;go_ret;exact⟨zi HF.out.symm,HB.out.trans (HAl.out.mono HB.out.size)⟩
   by_cases g2:l.bias.length<=60
   case neg=>
    have HF:Hid (R=false):=HNo.out (by unfold zdN;rw[Zj g2,Bool.false_and,Zbh]);go_wp2;go_ret;exact⟨zi HF.out.symm,HB.out.trans (HAl.out.mono HB.out.size)⟩
   have HOk:Hid (zdN l=(zaR l.weights && zaR l.bias)):=by unfold Hid zdN;rw[Zk g1,Zk g2];rfl
   cases hk1:zaR l.weights with
   | false=>
    rw[hk1]at HK1;have HF:Hid (R=false):=HNo.out (by rw[HOk.out,hk1];rfl);clear hk1
    go_wp2_with fail
    refine HK1.out.mono ?_
    rintro e w2 ⟨rfl,hb2⟩;have HB2:=htr HAl hb2;clear hb2;go_wp2;go_ret;exact⟨zi HF.out.symm,HB.out.trans (HB2.out.mono HB.out.size)⟩
   | true=>
    rw[hk1]at HK1 HOk;rw[Z4]at HOk;clear hk1
    go_wp2_with fail
    refine HK1.out.mono ?_
    rintro e w2 ⟨rfl,hb2⟩;have HB2:=htr HAl hb2;obtain⟨HBy,HK2⟩:=hd2 (HBx9.out.below hb2) (zhh d2 (HR2.out.below hb2) HLe.out.bias);clear hb2 l0 l1 l2 l3 l4 l5 l6 l7 l8 l9 HK1;obtain⟨l0,l1,l2,l3,l4,l5,l6,l7,l8,l9⟩:=HBy.out
    cases hk2:zaR l.bias with
    | false=>
     rw[hk2]at HK2 HOk;have HF:Hid (R=false):=HNo.out HOk.out;clear hk2
     go_wp2_with fail
     refine HK2.out.mono ?_
     rintro e w3 ⟨rfl,hb3⟩;have HB3:=htr HB2 hb3;clear hb3;go_wp2;go_ret;exact⟨zi HF.out.symm,HB.out.trans (HB3.out.mono HB.out.size)⟩
    | true=>
     rw[hk2]at HK2 HOk;have HA2:Hid ((m.layers.take (j+1)).all zdN=true):=by unfold Hid;rw[HT.out,HA.out,HOk.out];rfl
     clear hk2
     go_wp2_with fail
     refine HK2.out.mono ?_
     rintro e w3 ⟨rfl,hb3⟩;have HB3:=htr HB2 hb3;clear hb3 l0 l1 l2 l3 l4 l5 l6 l7 l8 l9;go_wp2;go_roundw
     case rel=>exact⟨j+1,hlt,Yg,HA2.out,HB3.out⟩
     case measure=>simp[intOf];omega
  ·obtain rfl:j=m.layers.length:=Ya;have HE:Hid (true=R):=by
    have:=HA.out;rw[Zae]at this;unfold Hid;rw[<- HRe.out,this];rfl
   go_wp2;go_ret;exact⟨zi HE.out,HBw.out⟩
theorem zo0{f g:zl}(hf:f.Can)(hg:g.Can)(hc:f.c=g.c)(ht:∀v,zM f.ts v=zM g.ts v):f=g:=by
 have h:f.ts=g.ts:=by
  have h1:=zfQ (k:=0) (f:=f.ts) (g:=[]) (l:=f.ts) hf (fun v=>by show _=_+0*0;grind);have h2:=zfQ (k:=0) (f:=f.ts) (g:=[]) (l:=g.ts) hg (fun v=>by rw[ht];show _=_+0*0;grind);rw[h1,h2]
 cases f;cases g;simp only at h hc;subst h hc;rfl
theorem zsL:zbi 1 (zbi 1 (zoP 0) (scA 1 (zbv 0))) (scA (-1) (zbv 1))=zbi (-1) (zbv 0) (zbv 1):=by
 refine zo0 (zbf _ _ _) (zbf _ _ _) Vs (fun v=>?_)
 show zM (zfm 1 (zfm 1 [] (zfm 1 [] [(0,1)])) (zfm (-1) [] [(1,1)])) v=zM (zfm (-1) [(0,1)] [(1,1)]) v
 rw[za3,za3,za3,za3,za3];show(0+1*(0+1*zM [(0,1)] v))+1*(0+ -1*zM [(1,1)] v)=zM [(0,1)] v+ -1*zM [(1,1)] v
 grind
theorem zsu:wq exD=[1,-1]:=by simp[wq,exD,zH]
theorem zsq:bq exD=[0]:=by simp[bq,exD,zH]
theorem zp4(W B:List Rat)(hW:W=[1,-1])(hB:B=[0])(n:Nat)(hn:n=1)(X:List zl)(hX:X=[zbv 0,zbv 1]):
  ((List.range n).map fun r=>zdq (B.getD r 0) (zas W (r*X.length) X.length) 0 (zbq X.length) X X.length)=[zbi (-1) (zbv 0) (zbv 1)]:=by
 subst hW;subst hB;subst hn;subst hX;show[zbi 1 (zbi 1 (zoP 0) (scA 1 (zbv 0))) (scA (-1) (zbv 1))]=_
 rw[zsL]
theorem zpE(s:List Int)(fr:List zl):z8 2 [] exD s (zq 2) fr=([],[zbi (-1) (zbv 0) (zbv 1)]):=by
 unfold z8;rw[Zm (show exD.kind=1 from rfl)];rw[zp4 _ _ zsu zsq exD.out.toNat rfl (zq 2) rfl]
theorem zmG:zch exM=(⟨2,[zbi (-1) (zbv 0) (zbv 1)],[zbv 2]⟩,0):=by
 unfold zch;rw[zlw];rw[Zm rfl,Zg Vs];have hs:(zt exM.input).toNat=2:=Vs;rw[hs];have hf:z6 2 exM.input (zq 2) [] [] [] exM.layers=([zbi (-1) (zbv 0) (zbv 1)],[[zbi (-1) (zbv 0) (zbv 1)],[zbv 2]]):=by
  show z6 2 [2] (zq 2) [] [] [] [exD,exR]=_
  unfold z6;rw[zm9];rw[show z8 2 [] exD (zh [2] []) (zat (zq 2) []) (zaS (zq 2) [] exD.frm)=([],[zbi (-1) (zbv 0) (zbv 1)])from zpE _ _];unfold z6;rw[show([]++[(([1],0):List Int×Int).1])=[[1]]from rfl,zmU];unfold z6;rfl
 rw[hf];rfl
theorem zno:∀l∈exM.layers,zbN l:=by
 have s1:zbH (zc 1)=true:=by rw[zis];rfl
 exact(zju (zqc 1 1 s1 s1)).sm
theorem zqv(v N:Nat)(h:v<N):BdF 1 1 N (zbv v):=by
 have h0:Bd 1 1 (0:Rat):=Bd.zero Ya;have h1:Bd 1 1 (1:Rat):=⟨Ya,1,by rw[Zby];rfl,Yd⟩
 refine⟨zff v,?_,h0,fun u=>?_⟩
 ·show zcM [(v,1)]<=N
  unfold zcM
  first|exact h|(simp[zcM];omega)
 ·show Bd 1 1 (zM [(v,1)] u)
  unfold zM
  split
  ·exact h1
  ·exact h0
theorem zrJ(n:Nat)(h:1<=n):3<4294967296^n:=Zb (show 3<4294967296^1 from Yd) (Zt Ya h)
theorem zsh:Pay 1 (1+1):=by
 unfold Pay;generalize hE:(524285:Nat)=E;have h1:1<=E:=Ya;clear hE;exact zrJ E h1
theorem zsU{a:Array Value}{W:World}(h:Calls Tryz.prog 12 a W (ziS W (zch exM))):
  Calls Tryz.prog 12 a W (fun e w'=>∃v,e=.returned (.tuple #[v,.int .i64 0])/\zhS w' v ⟨2,[zbi (-1) (zbv 0) (zbv 1)],[zbv 2]⟩/\Below W.heap.size W w'):=by
 rw[zmG]at h;exact h.mono fun e w' h=>h
theorem zjZ(w:World):Calls Tryz.prog 10 #[] w fun e w'=>e=.returned (.bool true)/\Below w.heap.size w w':=by
 have hOf1:∀W,Calls Tryz.prog 27 #[.int .i64 1] W (zcj W (zc 1)):=fun W=>zsV W 1 Ya Ya
 have hOfm:∀W,Calls Tryz.prog 27 #[.int .i64 (-1)] W (zcj W (zc (-1))):=fun W=>zsV W (-1) Ya Ya
 go_enter Tryz.func10,Tryz.ntmps10
 go_wp2_with fail
 refine(hOf1 _).mono ?_
 rintro e w1 ⟨v1,rfl,kv1,kb1⟩
 go_wp2_with fail
 refine(hOfm _).mono ?_
 rintro e w2 ⟨v2,rfl,kv2,kb2⟩;obtain⟨p,hp⟩:∃p,p=zc 1:=⟨_,rfl⟩
 obtain⟨q,hq⟩:∃q,q=zc (-1):=⟨_,rfl⟩
 rw[<- hp]at kv1;rw[<- hq]at kv2;obtain⟨an,ad,cn,cd,rfl,b2,b3,b4,b5⟩:=kv1.ex;obtain⟨bn,bd,dn,dd,rfl,g2,g3,g4,g5⟩:=kv2.ex;obtain⟨hp1,hq1,HB1,HB2,HP4,HP5⟩:=hd6 hp hq kb1 kb2 b4 b5;obtain⟨HG4,HG5⟩:=hd2 g4 g5;clear hp hq kv1 kv2 kb1 kb2 b4 b5 g4 g5
 go_upto_region 2 with fail
 generalize hAe:(((w2.alloc (.cells #[.bool p.neg,.slice an p.num.length cn,.slice ad p.den.length cd,.bool q.neg,.slice bn q.num.length dn,.slice bd q.den.length dd] 51)).alloc (zc9 51)).alloc
   (.cells #[.int .i64 1,.int .i64 0,.int .i64 1,.int .i64 0,.int .i64 0,.int .i64 0,.int .i64 0,.slice (some ⟨w2.heap.size,0,none⟩) 2 2,.slice (some ⟨w2.heap.size+1,0,none⟩) 1 1,.int .i64 5,.int .i64 0,.int .i64 0,.int .i64 0,.int .i64 0,.int .i64 0,.int .i64 0,.slice none 0 0,.slice none 0 0] 44)).alloc
   (.cells #[.slice (some ⟨w.heap.size,0,none⟩) 1 1,.slice (some ⟨w2.heap.size+1+1,0,none⟩) 2 2] 25)=W1
 obtain⟨hi,hla,hc0,hc1,hlt,hbe⟩:=zrZ hp1.out hq1.out HB1.out HB2.out b2 b3 HP4.out HP5.out g2 g3 HG4.out HG5.out hAe.symm;obtain⟨FS,hFS⟩:∃FS,FS=zbi (-1) (zbv 0) (zbv 1):=⟨_,rfl⟩
 have hLow:Calls Tryz.prog 12 #[.agg #[.slice (some ⟨w.heap.size,0,none⟩) 1 1,.slice (some ⟨w2.heap.size+1+1,0,none⟩) 2 2]] W1 (fun e w'=>∃v,e=.returned (.tuple #[v,.int .i64 0])/\zhS w' v ⟨2,[FS],[zbv 2]⟩/\Below W1.heap.size W1 w'):=by
  rw[hFS];exact zsU (zqu (m:=exM) 1 2 hi hla zmF zsj zno Yd)
 obtain⟨HLow,HBe⟩:=hd2 hLow hbe;have HSu:Hid (∀X v u,zap X v (zbv 0)->zap X u (zbv 1)->Calls Tryz.prog 28 #[v,u] X (za2 X FS)):=fun X v u h1 h2=>by
  rw[hFS];exact zts h1 h2 (zqv 0 2 Ya) (zqv 1 2 Ya) zsh Ya
 have HV:Hid (∀X (v:Nat),Calls Tryz.prog 22 #[.int .i64 (v:Int)] X (za2 X (zbv v))):=fun X v=>zsv X v
 have HFS:=hid hFS;clear hi hla hbe hAe HP4 HP5 HG4 HG5 HB1 HB2 hLow hFS
 go_wp2_with fail
 refine HLow.out.mono ?_
 rintro e wl ⟨v,rfl,hg,hb⟩;obtain⟨aU,cU,aO,cO,rfl,hcU,hcO,hU,hO⟩:=hg.ex;simp only[ZH,Zax,ZR]at hcU hcO;obtain⟨bU,oU,fU,u0,u1,u2,u3,rfl,hbU,hxU,cu0,cu1,cu2,cu3,hvU⟩:=hU.pick (k:=0) Yc;obtain⟨bO,oO,fO,o0,o1,o2,o3,rfl,hbO,hxO,co0,co1,co2,co3,hvO⟩:=hO.pick (k:=0) Yc;obtain rfl:FS=fU:=by simpa using hxU
 obtain rfl:zbv 2=fO:=by simpa using hxO
 rw[Zbe,ZU]at cu0 cu1 cu2 cu3 co0 co1 co2 co3;obtain⟨ua,un,uc,ub,uan,unn,ucn,uad,und,ucd,rfl,rfl,rfl,rfl⟩:=hvU.spell;obtain⟨oa,on,oc,ob,oan,onn,ocn,oad,ond,ocd,rfl,rfl,rfl,rfl⟩:=hvO.spell;obtain⟨HUv,HOv⟩:=hd2 hvU.val hvO.val;have HBl:=htr HBe hb;have hal:=blA wl (.cells #[.int .i64 2,.slice (some ⟨bU,oU,none⟩) 1 cU,.slice (some ⟨bO,oO,none⟩) 1 cO] 30);have hbx:=za4.alloc wl (.int .i64 2) (.slice (some ⟨bU,oU,none⟩) 1 cU) (.slice (some ⟨bO,oO,none⟩) 1 cO) 30;obtain⟨W3,hW3⟩:∃W3,W3=wl.alloc (.cells #[.int .i64 2,.slice (some ⟨bU,oU,none⟩) 1 cU,.slice (some ⟨bO,oO,none⟩) 1 cO] 30):=⟨_,rfl⟩
 rw[<- hW3]at hal hbx;obtain⟨gB,hgB⟩:∃gB,gB=wl.heap.size:=⟨_,rfl⟩
 rw[<- hgB]at hbx;have hlU:=hal.size;have HCe:Hid (∀X,Below W3.heap.size W3 X->X.cell? ⟨gB,0,none⟩=some (.int .i64 2)/\X.cell? ⟨gB,1,none⟩=some (.slice (some ⟨bU,oU,none⟩) 1 cU)/\X.cell? ⟨gB,2,none⟩=some (.slice (some ⟨bO,oO,none⟩) 1 cO)/\gB<X.heap.size/\
   X.cell? ⟨bU,oU,none⟩=some (.slice ua un uc)/\X.cell? ⟨bU,oU+1,none⟩=some (.bool ub)/\X.cell? ⟨bU,oU+2,none⟩=some (.slice uan unn ucn)/\X.cell? ⟨bU,oU+3,none⟩=some (.slice uad und ucd)/\bU<X.heap.size/\
   X.cell? ⟨bO,oO,none⟩=some (.slice oa on oc)/\X.cell? ⟨bO,oO+1,none⟩=some (.bool ob)/\X.cell? ⟨bO,oO+2,none⟩=some (.slice oan onn ocn)/\X.cell? ⟨bO,oO+3,none⟩=some (.slice oad ond ocd)/\bO<X.heap.size):=fun X hB=>by
  have k:=hbx.below hB;have hB2:Below wl.heap.size wl X:=hal.trans (hB.mono hal.size);have hsz:=hB2.size;exact⟨k.c0,k.c1,k.c2,k.lt,(hB2.cell hbU).trans cu0,(hB2.cell hbU).trans cu1,(hB2.cell hbU).trans cu2,(hB2.cell hbU).trans cu3,Ya,
   (hB2.cell hbO).trans co0,(hB2.cell hbO).trans co1,(hB2.cell hbO).trans co2,(hB2.cell hbO).trans co3,Ya⟩
 have HE1:Hid (∀X,Below W3.heap.size W3 X->∀u,zap X u FS->Calls Tryz.prog 21 #[.agg #[.slice ua un uc,.bool ub,.slice uan unn ucn,.slice uad und ucd],u] X (fun e w'=>∃v,e=.returned v/\v=.bool true/\Below X.heap.size X w')):=fun X hB u hu=>by
  refine(zmY (HUv.out.below (hal.trans (hB.mono hal.size))) hu).mono ?_
  exact IJ
 have HE2:Hid (∀X,Below W3.heap.size W3 X->∀u,zap X u (zbv 2)->Calls Tryz.prog 21 #[.agg #[.slice oa on oc,.bool ob,.slice oan onn ocn,.slice oad ond ocd],u] X (fun e w'=>∃v,e=.returned v/\v=.bool true/\Below X.heap.size X w')):=fun X hB u hu=>by
  refine(zmY (HOv.out.below (hal.trans (hB.mono hal.size))) hu).mono ?_
  exact IJ
 have HBW:=htr HBl hal;obtain⟨HW3,HGB⟩:=hd2 hW3 hgB;clear hg hU hO hvU hvO cu0 cu1 cu2 cu3 co0 co1 co2 co3 hxU hxO hal hbx hW3 hb HLow hgB hlU
 go_upto_region 3 with fail
 try simp only[ZH,Zax,ZR]
 rw[<- HGB.out];rw[<- HW3.out]
 refine zbX 37 Yb Yb Yb Yb Yd (zbZ W3.heap.size W3) (fun w w'=>Below w.heap.size w w') (GQ [.val (.int .i64 0),.val (.bool true),.val (.bool true),.val (.pointer (some ⟨gB,0,none⟩)),.val (.int .i64 2),.val (.bool true),.val (.bool true),.val (.bool true),.val (.pointer (some ⟨gB,1,none⟩)),.val (.slice (some ⟨bU,oU,none⟩) 1 cU),.val (.int .i64 1),.val (.bool true),.val (.bool true),.val (.bool true),.val (.pointer (some ⟨gB,1,none⟩)),.val (.slice (some ⟨bU,oU,none⟩) 1 cU),.val (.pointer (some ⟨bU,oU,none⟩)),.val (.agg #[.slice ua un uc,.bool ub,.slice uan unn ucn,.slice uad und ucd]),.frm (zbv 0),.frm (zbv 1),.frm FS,.val (.bool true),.val (.bool true),.val (.bool true),.val (.pointer (some ⟨gB,2,none⟩)),.val (.slice (some ⟨bO,oO,none⟩) 1 cO),.val (.int .i64 1),.val (.bool true),.val (.bool true),.val (.bool true),.val (.pointer (some ⟨gB,2,none⟩)),.val (.slice (some ⟨bO,oO,none⟩) 1 cO),.val (.pointer (some ⟨bO,oO,none⟩)),.val (.agg #[.slice oa on oc,.bool ob,.slice oan onn ocn,.slice oad ond ocd]),.frm (zbv 2),.val (.bool true),.val (.bool true)]) (fun i v w w' h hb=>zaV h hb) (zbZ.start (Za _)) ?_ ?_
 ·intro ops hops;have HOps:=hid hops;clear hops;simp only[Zo,Zw,zbR]
  refine⟨?v0,?v1,?v2,?v3,?v4,?v5,?v6,?v7,?v8,?v9,?v10,?v11,?v12,?v13,?v14,?v15,?v16,?v17,?_,?_,?_,?_,?v22,?v23,?v24,?v25,?v26,?v27,?v28,?v29,?v30,?v31,?v32,?v33,?_,?_,?v36,trivial⟩
  all_goals (intro y' X hR hL;have hB:=hR.base;obtain⟨k0,k1,k2,klt,e0,e1,e2,e3,elt,g0,g1,g2,g3,glt⟩:=HCe.out X hR.be;simp only[zdt,Region.binds,ZB,Zn,Zx,GQ,Zf,Zc]at hL;simp[ze,Act.put])
  case v0|v1|v2|v6|v7|v12|v13|v22|v23|v28|v29|v36=>
   exact OB
  case v3|v4|v5=>
   try simp only[hL]
   clear hL;have HR:=hid hR;clear hR
   refine zcm (HOps.out 2) 21 rfl rfl ?_
   exact U6
  case v8|v9|v10|v11=>
   try simp only[hL]
   clear hL;have HR:=hid hR;clear hR
   refine zcm (HOps.out 7) 26 rfl rfl ?_
   exact U6
  case v14|v15|v16|v17=>
   try simp only[hL]
   clear hL;have HR:=hid hR;clear hR
   refine zcm (HOps.out 13) 32 rfl rfl ?_
   exact U6
  case v24|v25|v26|v27=>
   try simp only[hL]
   clear hL;have HR:=hid hR;clear hR
   refine zcm (HOps.out 23) 42 rfl rfl ?_
   exact U6
  case v30|v31|v32|v33=>
   try simp only[hL]
   clear hL;have HR:=hid hR;clear hR
   refine zcm (HOps.out 29) 48 rfl rfl ?_
   exact U6
  ·try simp only[hL]
   clear hL;have HR:=hid hR;clear hR;have HCt:=hid (HV.out X 0);exact Ox
  ·generalize y' 18=y18 at hL⊢;generalize y' 13=y13 at hL⊢;obtain⟨H18,rfl,_⟩:=hL;obtain⟨K18,HR⟩:=hd2 H18 hR;clear hR H18;have HCt:=hid (HV.out X 1);exact Ox
  ·generalize y' 18=y18 at hL⊢;generalize y' 19=y19 at hL⊢;generalize y' 13=y13 at hL⊢;obtain⟨H18,H19,_,rfl,_⟩:=hL;obtain⟨K18,K19,HR⟩:=hd3 H18 H19 hR;clear hR H18 H19;have HCt:=hid (HSu.out X _ _ K18.out K19.out);exact Ox
  ·generalize y' 17=y17 at hL⊢;generalize y' 20=y20 at hL⊢;generalize y' 13=y13 at hL⊢;obtain⟨rfl,H20,_,rfl,_⟩:=hL;obtain⟨K20,HR⟩:=hd2 H20 hR;clear hR H20;have HCt:=hid (HE1.out X HR.out.be _ K20.out);exact Ox
  ·try simp only[hL]
   clear hL;have HR:=hid hR;clear hR;have HCt:=hid (HV.out X 2)
   refine zcm (HOps.out 29) 48 rfl rfl ?_
   exact Up
  ·generalize y' 33=y33 at hL⊢;generalize y' 34=y34 at hL⊢;generalize y' 29=y29 at hL⊢;obtain⟨rfl,H34,_,rfl,_⟩:=hL;obtain⟨K34,HR⟩:=hd2 H34 hR;clear hR H34;have HCt:=hid (HE2.out X HR.out.be _ K34.out)
   refine zcm (HOps.out 29) 48 rfl rfl ?_
   exact Up
 ·intro ops y' X hR hL;have hB:=hR.base;have J36:=hL.2;simp only[GQ,Zf,Zc]at J36;obtain⟨k0,k1,k2,klt,e0,e1,e2,e3,elt,g0,g1,g2,g3,glt⟩:=HCe.out X hR.be;clear hL;simp only[Zo,Zw,ZG,ZO];simp[ze,Act.put];generalize y' 36=y36 at J36⊢;obtain rfl:=J36;have HR:=hid hR;clear hR;clear k0 k1 k2 klt e0 e1 e2 e3 elt g0 g1 g2 g3 glt;have HBe2:=htr HBW HR.out.be;go_wp2;go_ret;exact⟨rfl,HBe2.out⟩
theorem zt4{G:zd6}{e1:Int}(c1 c2:Nat)(h1:zah w Any a1 m.input)(h2:zaK w a2 m.layers)(hr:∀l∈m.layers,zQ l)(hs:∀l∈m.layers,zbF l)(hsm:∀l∈m.layers,zbN l)(hl12:m.layers.length<=12)(hE:zch m=(G,e1))(nI nL:Nat)(hI:nI=m.input.length)(hL:nL=m.layers.length):
  Calls Tryz.prog 12 #[.agg #[.slice a1 nI c1,.slice a2 nL c2]] w (fun e w'=>∃v,e=.returned v/\zum w' v G e1/\Below w.heap.size w w'):=by
 rw[hI,hL]
 refine(zqu c1 c2 h1 h2 hr hs hsm hl12).mono ?_
 rintro e w' ⟨v,rfl,hg,hb⟩;rw[hE]at hg;rw[hE];exact⟨_,rfl,⟨v,rfl,hg⟩,hb⟩
theorem zlZ(h:zhq m L=true):zt m.input<=30:=by
 unfold zhq at h;simp only[Zu,ZC]at h;exact h.2.1
def zd9(m:zec):Int:=if(zI m).2.2=0 then 11 else(zI m).2.2
theorem znq(c1 c2 cx:Nat)(h1:zah w Any a1 m.input)(h2:zaK w a2 m.layers)(hr:∀l∈m.layers,zQ l)(hs:∀l∈m.layers,zbF l)(hnx:nx<=9223372036854775807)
 (hE:(zI m).2.2≠0∨(nx:Int)≠zt m.input):
  Calls Tryz.prog 39 #[.agg #[.slice a1 m.input.length c1,.slice a2 m.layers.length c2],.slice ax nx cx] w (fun e w'=>e=.returned (.tuple #[.slice none 0 0,.int .i64 (zd9 m)])/\Below w.heap.size w w'):=by
 have q1:=h1.len;have q2:=h2.len;obtain⟨H1,H2,HRg,HSh,HEr⟩:=hd5 h1 h2 hr hs hE;generalize hR:zd9 m=RR;unfold zd9 at hR;have HRd:=hid hR;clear h1 h2 hr hs hR hE
 go_enter Tryz.func39,Tryz.ntmps39
 go_upto_region 1 with fail
 have hb0:=blA w (.cells #[.slice a1 m.input.length c1,.slice a2 m.layers.length c2] 25);have hx:=za1.alloc w (.slice a1 m.input.length c1) (.slice a2 m.layers.length c2) 25;generalize w.alloc (.cells #[.slice a1 m.input.length c1,.slice a2 m.layers.length c2] 25)=W at *;obtain⟨HB0,HX⟩:=hd2 hb0 hx;obtain⟨x0,x1,xf,xlt⟩:=hx;clear hb0
 go_wp2_with fail
 refine(zr3 c1 c2 (H1.out.below HB0.out) (H2.out.below HB0.out) HRg.out HSh.out).mono ?_
 rintro e w1 ⟨⟨aS,cS,rfl,hI⟩,hb1⟩;have HX1:=hid (HX.out.below hb1);have HB1:=htr HB0 hb1;clear hb1 x0 x1 xf xlt hI
 by_cases he:(zI m).2.2=0
 ·rw[Zm he]at HRd;have hne:(nx:Int)≠zt m.input:=HEr.out.resolve_left (fun h=>h he);have HSz:=hid (zmj c1 (H1.out.below HB1.out));obtain⟨x0,x1,xf,xlt⟩:=HX1.out;have hRR:=HRd.out;subst hRR;rw[he];generalize(zI m).1.length=TL at *;generalize(zI m).2.1=ei at *;generalize zt m.input=n at HSz hne;have t1:((nx:Int) != n)=true:=by rw[bne_iff_ne];exact hne
  have t2:decide (¬ (nx:Int)=n)=true:=by simp[hne]
  clear he hne HEr
  go_wp2_with fail
  refine HSz.out.mono ?_
  rintro e w2 ⟨rfl,rfl⟩;go_wp2;exact Zp (v:=.tuple #[.slice none 0 0,.int .i64 11]) Vf rfl ⟨rfl,HB1.out⟩
 ·rw[Zg he]at HRd;generalize(zI m).1.length=TL at *;generalize(zI m).2.2=er at *;generalize(zI m).2.1=ei at *;have t1:(er != 0)=true:=Y2;have hRR:=HRd.out;subst hRR;clear he HRd HEr;go_wp2;exact Zp (v:=.tuple #[.slice none 0 0,.int .i64 er]) Vf rfl ⟨rfl,HB1.out⟩
theorem zrb(c1 c2 cx:Nat)(h1:zah w Any a1 m.input)(h2:zaK w a2 m.layers)(hr:∀l∈m.layers,zQ l)(hs:∀l∈m.layers,zbF l)(hnx:nx<=9223372036854775807)
 (hE:(zI m).2.2≠0∨(nx:Int)≠zt m.input):
  Calls Tryz.prog 16 #[.agg #[.slice a1 m.input.length c1,.slice a2 m.layers.length c2],.slice ax nx cx] w (fun e w'=>e=.returned (.tuple #[.slice none 0 0,.int .i64 (zd9 m)])/\Below w.heap.size w w'):=by
 have hal0:=blA w (.cells #[.slice a1 m.input.length c1,.slice a2 m.layers.length c2] 25);have HTr:=hid (znq (ax:=ax) c1 c2 cx (h1.below hal0) (h2.below hal0) hr hs hnx hE);have hx:=za1.alloc w (.slice a1 m.input.length c1) (.slice a2 m.layers.length c2) 25;have hne:zd9 m≠0:=by
  unfold zd9
  split
  ·omega
  ·assumption
 generalize zd9 m=er at *;have t1:(er != 0)=true:=by rw[bne_iff_ne];exact hne
 have HB0:=hid hal0;clear h1 h2 hr hs hE hne hal0
 go_enter Tryz.func16,Tryz.ntmps16
 go_upto_region 1 with fail
 generalize w.alloc (.cells #[.slice a1 m.input.length c1,.slice a2 m.layers.length c2] 25)=W at *;obtain⟨x0,x1,xf,xlt⟩:=hx
 go_wp2_with fail
 refine HTr.out.mono ?_
 rintro e w1 ⟨rfl,hb⟩;have HB1:=htr HB0 hb;clear hb HTr x0 x1 xf xlt;go_wp2;exact Zp (v:=.tuple #[.slice none 0 0,.int .i64 er]) Ve rfl ⟨rfl,HB1.out⟩
theorem zjg{w:World}{m:zec}{a1 a2:Option Addr}{L:List zaf}{ax:Option Addr}(c1 c2 cx:Nat)(hX:zm w ax L)(hXl:∀x∈L,zD x 1048576)(hcap:zqO w a2 m.layers)(h1:zah w Any a1 m.input)(h2:zaK w a2 m.layers)(hc2:m.layers.length<=c2)(hr:∀l∈m.layers,zQ l)(hs:∀l∈m.layers,zbF l):
  Calls Tryz.prog 4 #[.agg #[.slice a1 m.input.length c1,.slice a2 m.layers.length c2],.slice ax L.length cx] w fun e w'=>e=.returned (.bool true)/\Below w.heap.size w w':=by
 have q1:=h1.len;have q2:=h2.len;obtain⟨H1,H2,HRg,HSh⟩:=hd4 h1 h2 hr hs;have q3:=hX.len;obtain⟨HX0,HXl,HCap⟩:=hd3 hX hXl hcap;have hbA:=blA w (.cells #[.slice a1 m.input.length c1,.slice a2 m.layers.length c2] 25);have hx:=za1.alloc w (.slice a1 m.input.length c1) (.slice a2 m.layers.length c2) 25;clear h1 h2 hr hs hX hXl hcap
 go_enter Tryz.func4,Tryz.ntmps4
 go_upto_region 1 with fail
 generalize w.alloc (.cells #[.slice a1 m.input.length c1,.slice a2 m.layers.length c2] 25)=W at *;obtain⟨HB,HX⟩:=hd2 hbA hx;clear hbA hx
 go_wp2_with fail
 refine(zjZ W).mono ?_
 rintro e w1 ⟨rfl,hb1⟩;have HB1:=htr HB hb1;have HX1:=hid (HX.out.below hb1);obtain⟨x0,x1,xf,xlt⟩:=HX1.out;have HF:=hid (zrz c1 c2 (H1.out.below HB1.out) (H2.out.below HB1.out) HSh.out);clear hb1 HX
 cases hf:zhq m []with
 | false=>
  rw[hf]at HF;clear hf
  go_wp2_with fail
  refine HF.out.mono ?_
  rintro e w2 ⟨rfl,hb2⟩;have HB2:=htr HB1 hb2;clear hb2 x0 x1 xf xlt
  go_wp2_with fail
  refine(zjZ w2).mono ?_
  rintro e w3 ⟨rfl,hb3⟩;have HB3:=htr HB2 hb3;clear hb3;go_wp2;go_ret;exact⟨rfl,HB3.out⟩
 | true=>
 rw[hf]at HF;obtain⟨HP,HSz⟩:=hd2 (zju hf) (zlZ hf);clear hf
 go_wp2_with fail
 refine HF.out.mono ?_
 rintro e w2 ⟨rfl,hb2⟩;have HB2:=htr HB1 hb2;have HX2:=hid (HX1.out.below hb2);clear hb2 x0 x1 xf xlt HF;obtain⟨x0,x1,xf,xlt⟩:=HX2.out;have hl8:=HP.out.lens;obtain⟨nx,hnx⟩:∃nx,nx=L.length:=⟨_,rfl⟩
 have HNx:=hid hnx;have hK:=zhh cx (HX0.out.below HB2.out) HXl.out;rw[<- hnx]at hK q3⊢;have HK:=hid hK;clear hK hnx
 cases hk:zaR L with
 | false=>
  rw[hk]at HK;clear hk
  go_wp2_with fail
  refine HK.out.mono ?_
  rintro e w3 ⟨rfl,hb3⟩;have HB3:=htr HB2 hb3;clear hb3 x0 x1 xf xlt
  go_wp2_with fail
  refine(zjZ w3).mono ?_
  rintro e w4 ⟨rfl,hb4⟩;have HB4:=htr HB3 hb4;clear hb4;go_wp2;go_ret;exact⟨rfl,HB4.out⟩
 | true=>
 rw[hk]at HK;have HLt:=hid (zdw hk);clear hk
 go_wp2_with fail
 refine HK.out.mono ?_
 rintro e w3 ⟨rfl,hb3⟩;have HB3:=htr HB2 hb3;have HX3:=hid (HX2.out.below hb3);clear hb3 HK x0 x1 xf xlt;obtain⟨x0,x1,xf,xlt⟩:=HX3.out;obtain⟨G1,e1,hE1⟩:∃G1 e1,zch m=(G1,e1):=⟨_,_,rfl⟩
 have HE1:=hid hE1;clear hE1
 by_cases hgood:(zI m).2.2=0/\(nx:Int)=zt m.input
 case neg=>
  have hbad:(zI m).2.2≠0∨(nx:Int)≠zt m.input:=by
   by_cases h:(zI m).2.2=0
   ·exact .inr (fun h2=>hgood ⟨h,h2⟩)
   ·exact .inl h
  have hor:zd9 m≠0/\(e1≠0∨zd9 m=11):=by
   unfold zd9
   by_cases h:(zI m).2.2=0
   ·rw[Zm h];exact⟨Ya,.inr rfl⟩
   ·rw[Zg h]
    refine⟨h,.inl ?_⟩
    have:=HE1.out;unfold zch at this;rw[Zg h]at this;have h2:(zI m).2.2=e1:=congrArg Prod.snd this;rw[<- h2];exact h
  have HR:=hid (zrb (ax:=ax) c1 c2 cx (H1.out.below HB3.out) (H2.out.below HB3.out) HRg.out HSh.out q3 hbad);generalize zd9 m=er at *;obtain⟨HOr,HNe⟩:=hd2 hor.2 hor.1;clear hgood hbad hor
  go_wp2_with fail
  refine HR.out.mono ?_
  rintro e w4 ⟨rfl,hb4⟩;have HB4:=htr HB3 hb4;have HX4:=hid (HX3.out.below hb4);clear hb4 x0 x1 xf xlt HR;have HL:=hid (zt4 c1 c2 (H1.out.below HB4.out) (H2.out.below HB4.out) HRg.out HSh.out HP.out.sm Ya HE1.out _ _ rfl rfl);obtain⟨x0,x1,xf,xlt⟩:=HX4.out
  go_wp2_with fail
  refine HL.out.mono ?_
  rintro e w5 ⟨v,rfl,⟨u,rfl,hg⟩,hb⟩;obtain⟨aU1,cU1,aO1,cO1,rfl,hu1,ho1,hU1,hO1⟩:=hg.ex;have HB5:=htr HB4 hb;have hal:=blA w5 (.cells #[.int .i64 (G1.inputs:Int),.slice aU1 G1.units.length cU1,.slice aO1 G1.outs.length cO1] 30);have HB6:=htr HB5 hal;clear hb hg hU1 hO1 hal x0 x1 xf xlt HL hu1 ho1;have t0:(er != 0)=true:=by rw[bne_iff_ne];exact HNe.out
  by_cases he:e1=0
  ·have h11:er=11:=HOr.out.resolve_left (fun h=>h he);subst h11;subst he;clear t0;go_wp2;go_ret;exact⟨rfl,HB6.out⟩
  ·have t1:(e1 != 0)=true:=Y2;have t1':decide (¬ e1=0)=true:=Kp;clear he;go_wp2;go_ret;exact⟨rfl,HB6.out⟩
 obtain⟨hsh,hsz⟩:=hgood;obtain⟨hbk,hsm⟩:=HLt.out;obtain⟨x,hx⟩:∃x,x=L.map zT:=⟨_,rfl⟩
 rw[<- hx]at hbk hsm;have hxn:x.length=nx:=by rw[hx,Zv,HNx.out]
 have hx30:x.length<=30:=by have:=HSz.out;omega
 obtain⟨Wd,w1',w2',w3'⟩:=BdL.small _ hsm;have hW30:Wd<=4294967296^30:=Zi w2' (Zt Ya hx30);have hroom:=zn9 w2' Ya;have htl:=zoD (k:=0) (x:=x) (m:=m) (D:=Wd) (B:=18446744073709551616) (fun D' B' h1 h2=>hroom D' B' (Zi h1 (ZQ _ (Zt zcD Ya))) (Zi h2 (Zl _ (Zt Ya Ya)))) w3' w1' Ya HP.out.sm;have hXx:∀W,Below w.heap.size w W->zm W ax (x.map zc):=fun W hb=>by rw[<- hbk];exact HX0.out.below hb
 have hRun:=zr7 (x:=x) c1 c2 cx (H1.out.below HB3.out) (H2.out.below HB3.out) (HCap.out.below H2.out HB3.out) HRg.out HSh.out (hXx _ HB3.out) HP.out.sm w3' w1' Ya Ya hroom Ya (fun l hl=>Zi (htl l hl) Ya);rw[hxn,zqT,Zm hsh,Zm (by rw[hxn];exact hsz)]at hRun;obtain⟨HRun,HXx,HXn,HXz,HBW⟩:=hd5 hRun hXx hxn (show(x.length:Int)=zt m.input by rw[hxn];exact hsz) (And.intro hW30 (And.intro w1' w3'));obtain⟨Y,hY⟩:∃Y,Y=zbj x (zdM m x):=⟨_,rfl⟩
 rw[<- hY]at HRun;have HY:=hid hY;clear hsh hsz hbk hsm hx hxn hx30 w1' w2' w3' hW30 hroom htl hXx hRun hY HLt
 go_wp2_with fail
 refine HRun.out.mono ?_
 rintro e w4 ⟨aY,cY,rfl,hcY,hRY,hb4⟩;have HB4:=htr HB3 hb4;obtain⟨HX4,HRY⟩:=hd2 (HX3.out.below hb4) (show zm w4 aY (Y.map zc)from hRY);simp only at hcY⊢;obtain⟨nY,hnY⟩:∃nY,nY=(Y.map zc).length:=⟨_,rfl⟩
 rw[<- hnY]at hcY⊢;have HNY:=hid hnY;have hnYl:nY<=9223372036854775807:=by rw[hnY];exact hRY.len
 clear hb4 hRY hnY x0 x1 xf xlt HRun;have HL:=hid (zt4 c1 c2 (H1.out.below HB4.out) (H2.out.below HB4.out) HRg.out HSh.out HP.out.sm Ya HE1.out _ _ rfl rfl);obtain⟨x0,x1,xf,xlt⟩:=HX4.out
 go_wp2_with fail
 refine HL.out.mono ?_
 rintro e w5 ⟨v,rfl,⟨u,rfl,hg⟩,hb⟩;obtain⟨aU1,cU1,aO1,cO1,rfl,hu1,ho1,hU1,hO1⟩:=hg.ex;have HB5:=htr HB4 hb;have hal:=blA w5 (.cells #[.int .i64 (G1.inputs:Int),.slice aU1 G1.units.length cU1,.slice aO1 G1.outs.length cO1] 30);have HB6:=htr HB5 hal;obtain⟨HU6,HO6⟩:=hd2 (hU1.below zaX hal) (hO1.below zaX hal);have hgb:=za4.alloc w5 (.int .i64 (G1.inputs:Int)) (.slice aU1 G1.units.length cU1) (.slice aO1 G1.outs.length cO1) 30;have HRY6:=hid ((HRY.out.below hb).below hal);have hlu:=hU1.len;have hlo:=hO1.len;clear hb hg hU1 hO1 hal x0 x1 xf xlt HL hu1 ho1 HRY
 by_cases he:e1=0
 case neg=>
  have t1:(e1 != 0)=true:=Y2;have t1':decide (¬ e1=0)=true:=Kp;clear he hgb;go_wp2;go_ret;exact⟨rfl,HB6.out⟩
 subst he;obtain⟨D1,B1,D2,B2,hG,hbV,hD2,hPay⟩:=zpC HE1.out HXz.out HP.out.sm Ya HBW.out.1 HBW.out.2.1 HBW.out.2.2;obtain⟨_,_,hgi,hgv⟩:=zhF HE1.out HXz.out;have HEq:Hid ((G1.outs.map (zK (zN x G1.units))).map zc=Y.map zc):=by unfold Hid;rw[hgv,HY.out]
 have hni:G1.inputs=nx:=by rw[hgi,HXn.out]
 obtain⟨HNi,HGo⟩:=hd2 hni (And.intro hG (And.intro hbV (And.intro hD2 hPay)));have hD1p:0<D1:=by have h:=hG.o1;exact(hG.bo _ (Z1 (show 0<G1.outs.length from Ya))).pos
 have HP1:=hid (hPay.p1 hD2);have HW7:Hid (∃W7,W7=(w5.alloc (.cells #[.int .i64 (G1.inputs:Int),.slice aU1 G1.units.length cU1,.slice aO1 G1.outs.length cO1] 30))):=⟨_,rfl⟩
 clear hgi hgv hni hG hbV hPay hD2 hD1p;obtain⟨W7,hW7⟩:=HW7.out;obtain⟨bg,hbg⟩:∃bg,bg=w5.heap.size:=⟨_,rfl⟩
 rw[<- hW7]at HB6 HU6 HO6 HRY6 hgb;rw[<- hbg]at hgb;obtain⟨HW7e,Hbg⟩:=hd2 hW7 hbg;obtain⟨no,hno⟩:∃no,no=G1.outs.length:=⟨_,rfl⟩
 obtain⟨nu,hnu⟩:∃nu,nu=G1.units.length:=⟨_,rfl⟩
 rw[HNi.out,<- hno,<- hnu]at hgb;rw[<- hno]at hlo;rw[<- hnu]at hlu;obtain⟨HNo,HNu⟩:=hd2 hno hnu;have hOu:=zma (cU:=cU1) (cO:=cO1) cx HU6.out HO6.out (HXx.out _ HB6.out) HXn.out HNi.out HNo.out.symm HGo.out.1 HGo.out.2.1 HGo.out.2.2.1 HGo.out.2.2.2;rw[HEq.out,<- hnu]at hOu;obtain⟨HOu,HGb⟩:=hd2 hOu hgb;clear hW7 hbg hno hnu hOu HW7
 go_upto_region 7 with fail
 rw[<- Hbg.out,<- HW7e.out];rw[HNi.out,<- HNo.out,<- HNu.out];obtain⟨g0,g1,g2,gf,glt⟩:=HGb.out
 go_wp2_with fail
 refine HOu.out.mono ?_
 rintro e w8 ⟨aZ,cZ,rfl,hcZ,hRZ,hb8⟩;have HB8:=htr HB6 hb8;obtain⟨HG8,HRZ,HRY8⟩:=hd3 (HGb.out.below hb8) (show zm w8 aZ (Y.map zc)from hRZ) (HRY6.out.below hb8);have hVd:=zk4 (cU:=cU1) (cO:=cO1) (HU6.out.below zaX hb8) (HO6.out.below zaX hb8) HGo.out.1 HP1.out;rw[HNi.out,<- HNo.out,<- HNu.out]at hVd;have HVd:=hid hVd;simp only at hcZ⊢;rw[<- HNY.out]at hcZ⊢;clear hb8 hRZ hVd HOu g0 g1 g2 gf glt;obtain⟨g0,g1,g2,gf,glt⟩:=HG8.out
 go_wp2_with fail
 refine HVd.out.mono ?_
 rintro e w9 ⟨rfl,hb9⟩;have HB9:=htr HB8 hb9;have hC:=zqW cY cZ (HRY8.out.below hb9) (HRZ.out.below hb9);rw[Zk rfl,<- HNY.out]at hC;have HC:=hid hC;clear hb9 hC HVd g0 g1 g2 gf glt
 go_wp2_with fail
 refine HC.out.mono ?_
 rintro e w10 ⟨rfl,hb10⟩;have HB10:=htr HB9 hb10;clear hb10;go_wp2;go_ret;exact⟨rfl,HB10.out⟩
