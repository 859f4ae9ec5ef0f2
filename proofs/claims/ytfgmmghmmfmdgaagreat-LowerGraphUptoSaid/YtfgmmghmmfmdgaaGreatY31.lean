/-
  Contracts: LqA, LqB0, LqB, LqD, RkN.
-/
import Derived.Test.YtfgmmghmmfmdgaaGreatY30
import Derived.Test.YtfgmmghmmfmdgaaGreatY29
import Derived.Test.YtfgmmghmmfmdgaaGreatY0
set_option linter.all false
set_option maxRecDepth 100000
set_option maxHeartbeats 3200000
namespace Go.Proofs.YtfgmmghmmfmdgaaGreat
open Go.RowKit
open Go.Lib (hid)
variable {P:Prop} {w:World} {m:zgt} {G:zdF} {e1:Int} {a1 a2:Option Addr}
theorem Ol(h:P:=by refine zb8 (HOps.out 13) 32 rfl rfl ?_;exact Uh):P:=h
theorem Im(h:P:=by rintro e w' ⟨v,rfl,hg,hb⟩;rw[hE]at hg;rw[hE];exact⟨_,rfl,⟨v,rfl,hg⟩,hb⟩):P:=h
theorem I6(h:P:=by
 rintro e w' ⟨rfl,hb⟩;exact⟨_,rfl,by rw[(zcR _ _).2 rfl],hb⟩
):P:=h
theorem zjg{a:Option Addr}{L:List zaI}(c:Nat)(h:zN w a L)(hL:∀x∈L,zaf x 1048576):
  Calls Tryz.prog 15 #[.slice a L.length c] w fun e w'=>e=.returned (.bool (zaX L))/\Below w.heap.size w w':=by
 have q1:=h.len;obtain⟨H,HV⟩:=hd2 h (zlE c h hL);generalize hR:zaX L=R;unfold zaX at hR;have HR:=hid hR;clear h hL hR
 go_enter Tryz.func15,Tryz.ntmps15
 go_wp2
 go_loopw [3] (fun i wr=>∃j:Nat,j<=L.length/\i=.int .i64 (j:Int)/\Hid ((L.take j).all zbF=true)/\Hid (w=wr)) (fun i _=>L.length-(intOf i).toNat)
 case atStart=>exact⟨0,Zs _,rfl,rfl,rfl⟩
 case round=>
  obtain⟨j,hj,rfl,HA,HW⟩:=hrel;have ew:=HW.out;clear HW;subst ew
  by_cases hlt:j<L.length
  ·obtain⟨b,off,x,an,ad,cn,cd,rfl,hb,hx,x0,x1,x2,hv⟩:=H.out.pick hlt;obtain⟨HT,HM⟩:=hd2 (zmN hx) (Zt hx);clear hx hv
   by_cases g1:x.num.length<=2
   ·by_cases g2:x.den.length<=1
    ·have HA2:Hid ((L.take (j+1)).all zbF=true):=by unfold Hid;rw[HT.out,HA.out];unfold zbF;rw[Zk g1,Zk g2];rfl
     go_wp2;go_roundw
     case rel=>exact⟨j+1,hlt,Yg,HA2.out,XS⟩
     case measure=>simp[intOf];omega
    ·have HF:Hid (R=false):=by
      unfold Hid;have:L.all zbF=false:=by rw[List.all_eq_false];exact⟨x,HM.out,by simp[zbF,g2]⟩
      rw[<- HR.out,this];rfl
     go_wp2;go_ret;exact⟨zj HF.out.symm,Zg _ _⟩
   ·have HF:Hid (R=false):=by
     unfold Hid;have:L.all zbF=false:=by rw[List.all_eq_false];exact⟨x,HM.out,by simp[zbF,g1]⟩
     rw[<- HR.out,this];rfl
    go_wp2;go_ret;exact⟨zj HF.out.symm,Zg _ _⟩
  ·obtain rfl:j=L.length:=Ya;have HE:Hid (L.all zL=R):=by
    have:=HA.out;rw[Z3]at this;unfold Hid;rw[<- HR.out,this];rfl
   go_wp2_with fail
   refine HV.out.mono ?_
   rintro e w' ⟨rfl,hb⟩;have HB:=hid hb;clear hb;rw[HE.out];go_wp2;go_ret;exact⟨rfl,HB.out⟩
theorem zqE{w:World}{m:zgt}{a1 a2:Option Addr}(c1 c2:Nat)(h1:z9 w Any a1 m.input)(h2:zaO w a2 m.layers)(hs:∀l∈m.layers,zbC l):
  Calls Tryz.prog 11 #[.agg #[.slice a1 m.input.length c1,.slice a2 m.layers.length c2]] w fun e w'=>e=.returned (.bool (ziV m []))/\Below w.heap.size w w':=by
 have q1:=h1.len;have q2:=h2.len;obtain⟨H1,H2,HSh⟩:=hd3 h1 h2 hs;generalize hR:ziV m []=R;unfold ziV at hR;have HRd:=hid hR;have hbA:=blA w (.cells #[.slice a1 m.input.length c1,.slice a2 m.layers.length c2] 25);have hx:=za1.alloc w (.slice a1 m.input.length c1) (.slice a2 m.layers.length c2) 25;clear h1 h2 hR hs
 go_enter Tryz.func11,Tryz.ntmps11
 go_upto_region 1 with fail
 generalize w.alloc (.cells #[.slice a1 m.input.length c1,.slice a2 m.layers.length c2] 25)=W at *;obtain⟨HB,HX⟩:=hd2 hbA hx;clear hbA hx;obtain⟨x0,x1,xf,xlt⟩:=HX.out;have HS:=hid (zjP c1 (H1.out.below HB.out));generalize hsz:zJ m.input=sz at *;clear hsz
 by_cases e1:m.layers.length<=8
 case neg=>
  have HF:Hid (R=false):=K0;go_wp2;go_ret;exact⟨zj HF.out.symm,HB.out⟩
 by_cases e2:sz<=30
 case neg=>
  have HF:Hid (R=false):=by unfold Hid;rw[<- HRd.out,Zo e2,Bool.false_and,Zbh]
  have t2:decide (30<sz)=true:=Zk Ya
  go_wp2_with fail
  refine HS.out.mono ?_
  rintro e w' ⟨rfl,rfl⟩;go_wp2;go_ret;exact⟨zj HF.out.symm,HB.out⟩
 have t2:decide (30<sz)=false:=Zo Ya
 by_cases e4:m.input.length<=8
 case neg=>
  have HF:Hid (R=false):=by unfold Hid;rw[<- HRd.out,Zo e4,Bool.false_and,Zbh,Zbh,Zbh]
  go_wp2_with fail
  refine HS.out.mono ?_
  rintro e w' ⟨rfl,rfl⟩;go_wp2;go_ret;exact⟨zj HF.out.symm,HB.out⟩
 have HRe:Hid ((m.layers.all zdA && zaX [])=R):=by have:=HRd.out;rw[Zk e1,Zk e2,Zk e4]at this;exact this
 go_wp2_with fail
 refine HS.out.mono ?_
 rintro e w' ⟨rfl,rfl⟩;go_wp2;clear x0 x1 xf xlt
 go_loopw [3] (fun i wr=>∃j:Nat,j<=m.layers.length/\i=.int .i64 (j:Int)/\Hid ((m.layers.take j).all zdA=true)/\Hid (Below W.heap.size W wr)) (fun i _=>m.layers.length-(intOf i).toNat)
 case atStart=>exact⟨0,Zs _,rfl,rfl,Zg _ _⟩
 case round=>
  obtain⟨j,hj,rfl,HA,HW⟩:=hrel;have HBw:=htr HB HW.out;obtain⟨x0,x1,xf,xlt⟩:=HX.out.below HW.out
  by_cases hlt:j<m.layers.length
  ·obtain⟨bl,ol,l,ha2,hbl,hl,b1,b2,d1,d2,⟨l0,l1,l2,l3,l4,l5,l6,l7,l8⟩,r1,r2⟩:=(H2.out.below HBw.out).pick hlt;have HT:=hid (zmg hl);have hmem:=Zt hl;have HM:=hid hmem;have hle:=HSh.out l hmem;have p1:=r1.len;have p2:=r2.len;have hal:=blA wr (zbu l b1 d1 b2 d2 44);have HAl:=htr HW hal;obtain⟨HR1,HR2,HBx9⟩:=hd3 (r1.below hal) (r2.below hal) (b9l wr l b1 d1 b2 d2 44);have HNo:Hid (zdA l=false->R=false):=fun hf=>by
    have:m.layers.all zdA=false:=by rw[List.all_eq_false];exact⟨l,HM.out,by simp[hf]⟩
    rw[<- HRe.out,this];rfl
   have HLe:=hid hle;subst ha2;clear hl r1 r2 hal hmem hle
   go_upto_region 7 with fail
   generalize wr.alloc (zbu l b1 d1 b2 d2 44)=wj at *;clear l0 l1 l2 l3 l4 l5 l6 l7 l8;obtain⟨l0,l1,l2,l3,l4,l5,l6,l7,l8,l9⟩:=HBx9.out;have HK1:=hid (zjg d1 HR1.out HLe.out.wts)
   by_cases g1:l.weights.length<=60
   case neg=>
    have HF:Hid (R=false):=HNo.out (by unfold zdA;rw[Zo g1];rfl);go_wp2;go_ret;exact⟨zj HF.out.symm,HB.out.trans (HAl.out.mono HB.out.size)⟩
   by_cases g2:l.bias.length<=60
   case neg=>
    have HF:Hid (R=false):=HNo.out (by unfold zdA;rw[Zo g2,Bool.false_and,Zbh]);go_wp2;go_ret;exact⟨zj HF.out.symm,HB.out.trans (HAl.out.mono HB.out.size)⟩
   have HOk:Hid (zdA l=(zaX l.weights && zaX l.bias)):=by unfold Hid zdA;rw[Zk g1,Zk g2];rfl
   cases hk1:zaX l.weights with
   | false=>
    rw[hk1]at HK1;have HF:Hid (R=false):=HNo.out (by rw[HOk.out,hk1];rfl);clear hk1
    go_wp2_with fail
    refine HK1.out.mono ?_
    rintro e w2 ⟨rfl,hb2⟩;have HB2:=htr HAl hb2;clear hb2;go_wp2;go_ret;exact⟨zj HF.out.symm,HB.out.trans (HB2.out.mono HB.out.size)⟩
   | true=>
    rw[hk1]at HK1 HOk;rw[Z0]at HOk;clear hk1
    go_wp2_with fail
    refine HK1.out.mono ?_
    rintro e w2 ⟨rfl,hb2⟩;have HB2:=htr HAl hb2;obtain⟨HBy,HK2⟩:=hd2 (HBx9.out.below hb2) (zjg d2 (HR2.out.below hb2) HLe.out.bias);clear hb2 l0 l1 l2 l3 l4 l5 l6 l7 l8 l9 HK1;obtain⟨l0,l1,l2,l3,l4,l5,l6,l7,l8,l9⟩:=HBy.out
    cases hk2:zaX l.bias with
    | false=>
     rw[hk2]at HK2 HOk;have HF:Hid (R=false):=HNo.out HOk.out;clear hk2
     go_wp2_with fail
     refine HK2.out.mono ?_
     rintro e w3 ⟨rfl,hb3⟩;have HB3:=htr HB2 hb3;clear hb3;go_wp2;go_ret;exact⟨zj HF.out.symm,HB.out.trans (HB3.out.mono HB.out.size)⟩
    | true=>
     rw[hk2]at HK2 HOk;have HA2:Hid ((m.layers.take (j+1)).all zdA=true):=by unfold Hid;rw[HT.out,HA.out,HOk.out];rfl
     clear hk2
     go_wp2_with fail
     refine HK2.out.mono ?_
     rintro e w3 ⟨rfl,hb3⟩;have HB3:=htr HB2 hb3;clear hb3 l0 l1 l2 l3 l4 l5 l6 l7 l8 l9;go_wp2;go_roundw
     case rel=>exact⟨j+1,hlt,Yg,HA2.out,HB3.out⟩
     case measure=>simp[intOf];omega
  ·obtain rfl:j=m.layers.length:=Ya;have HE:Hid (true=R):=by
    have:=HA.out;rw[Z3]at this;unfold Hid;rw[<- HRe.out,this];rfl
   go_wp2;go_ret;exact⟨zj HE.out,HBw.out⟩
theorem znY{f g:zl}(hf:f.Can)(hg:g.Can)(hc:f.c=g.c)(ht:∀v,zH f.ts v=zH g.ts v):f=g:=by
 have h:f.ts=g.ts:=by
  have h1:=zfg (k:=0) (f:=f.ts) (g:=[]) (l:=f.ts) hf (fun v=>by show _=_+0*0;grind);have h2:=zfg (k:=0) (f:=f.ts) (g:=[]) (l:=g.ts) hg (fun v=>by rw[ht];show _=_+0*0;grind);rw[h1,h2]
 cases f;cases g;simp only at h hc;subst h hc;rfl
theorem zrI:za2 1 (za2 1 (zkq 0) (scA 1 (za4 0))) (scA (-1) (za4 1))=za2 (-1) (za4 0) (za4 1):=by
 refine znY (zbz _ _ _) (zbz _ _ _) Vi (fun v=>?_)
 show zH (zeQ 1 (zeQ 1 [] (zeQ 1 [] [(0,1)])) (zeQ (-1) [] [(1,1)])) v=zH (zeQ (-1) [(0,1)] [(1,1)]) v
 rw[zat,zat,zat,zat,zat];show(0+1*(0+1*zH [(0,1)] v))+1*(0+ -1*zH [(1,1)] v)=zH [(0,1)] v+ -1*zH [(1,1)] v
 grind
theorem zre:wq exD=[1,-1]:=by simp[wq,exD,zax]
theorem zrF:bq exD=[0]:=by simp[bq,exD,zax]
theorem zn2(W B:List Rat)(hW:W=[1,-1])(hB:B=[0])(n:Nat)(hn:n=1)(X:List zl)(hX:X=[za4 0,za4 1]):
  ((List.range n).map fun r=>zce (B.getD r 0) (zb9 W (r*X.length) X.length) 0 (zcq X.length) X X.length)=[za2 (-1) (za4 0) (za4 1)]:=by
 subst hW;subst hB;subst hn;subst hX;show[za2 1 (za2 1 (zkq 0) (scA 1 (za4 0))) (scA (-1) (za4 1))]=_
 rw[zrI]
theorem zoR(s:List Int)(fr:List zl):zam 2 [] exD s (zu 2) fr=([],[za2 (-1) (za4 0) (za4 1)]):=by
 unfold zam;rw[Zq (show exD.kind=1 from rfl)];rw[zn2 _ _ zre zrF exD.out.toNat rfl (zu 2) rfl]
theorem zmt:zdt exM=(⟨2,[za2 (-1) (za4 0) (za4 1)],[za4 2]⟩,0):=by
 unfold zdt;rw[zla];rw[Zq rfl,Zh Vi];have hs:(zJ exM.input).toNat=2:=Vi;rw[hs];have hf:zav 2 exM.input (zu 2) [] [] [] exM.layers=([za2 (-1) (za4 0) (za4 1)],[[za2 (-1) (za4 0) (za4 1)],[za4 2]]):=by
  show zav 2 [2] (zu 2) [] [] [] [exD,exR]=_
  unfold zav;rw[zmQ];rw[show zam 2 [] exD (zk [2] []) (zaF (zu 2) []) (zbs (zu 2) [] exD.frm)=([],[za2 (-1) (za4 0) (za4 1)])from zoR _ _];unfold zav;rw[show([]++[(([1],0):List Int×Int).1])=[[1]]from rfl,znq];unfold zav;rfl
 rw[hf];rfl
theorem zl6:∀l∈exM.layers,zdM l:=by
 have s1:zbF (zh 1)=true:=by rw[zhI];rfl
 exact(zi1 (zoZ 1 1 s1 s1)).sm
theorem zpv(v N:Nat)(h:v<N):BdF 1 1 N (za4 v):=by
 have h0:Bd 1 1 (0:Rat):=Bd.zero Ya;have h1:Bd 1 1 (1:Rat):=⟨Ya,1,by rw[Zbc];rfl,Yb⟩
 refine⟨zeI v,?_,h0,fun u=>?_⟩
 ·show zcH [(v,1)]<=N
  unfold zcH
  first|exact h|(simp[zcH];omega)
 ·show Bd 1 1 (zH [(v,1)] u)
  unfold zH
  split
  ·exact h1
  ·exact h0
theorem zp5(n:Nat)(h:1<=n):3<4294967296^n:=Zd (show 3<4294967296^1 from Yb) (ZE Ya h)
theorem zq5:Pay 1 (1+1):=by
 unfold Pay;generalize hE:(524285:Nat)=E;have h1:1<=E:=Ya;clear hE;exact zp5 E h1
theorem zrn{a:Array Value}{W:World}(h:Calls Tryz.prog 12 a W (zfl W (zdt exM))):
  Calls Tryz.prog 12 a W (fun e w'=>∃v,e=.returned (.tuple #[v,.int .i64 0])/\zdx w' v ⟨2,[za2 (-1) (za4 0) (za4 1)],[za4 2]⟩/\Below W.heap.size W w'):=by
 rw[zmt]at h;exact h.mono fun e w' h=>h
theorem znx(w:World):Calls Tryz.prog 10 #[] w fun e w'=>e=.returned (.bool true)/\Below w.heap.size w w':=by
 have hOf1:∀W,Calls Tryz.prog 27 #[.int .i64 1] W (zey W (zh 1)):=fun W=>zrV W 1 Ya Ya
 have hOfm:∀W,Calls Tryz.prog 27 #[.int .i64 (-1)] W (zey W (zh (-1))):=fun W=>zrV W (-1) Ya Ya
 go_enter Tryz.func10,Tryz.ntmps10
 go_wp2_with fail
 refine(hOf1 _).mono ?_
 rintro e w1 ⟨v1,rfl,kv1,kb1⟩
 go_wp2_with fail
 refine(hOfm _).mono ?_
 rintro e w2 ⟨v2,rfl,kv2,kb2⟩;obtain⟨p,hp⟩:∃p,p=zh 1:=⟨_,rfl⟩
 obtain⟨q,hq⟩:∃q,q=zh (-1):=⟨_,rfl⟩
 rw[<- hp]at kv1;rw[<- hq]at kv2;obtain⟨an,ad,cn,cd,rfl,b2,b3,b4,b5⟩:=kv1.ex;obtain⟨bn,bd,dn,dd,rfl,g2,g3,g4,g5⟩:=kv2.ex;obtain⟨hp1,hq1,HB1,HB2,HP4,HP5⟩:=hd6 hp hq kb1 kb2 b4 b5;obtain⟨HG4,HG5⟩:=hd2 g4 g5;clear hp hq kv1 kv2 kb1 kb2 b4 b5 g4 g5
 go_upto_region 2 with fail
 generalize hAe:(((w2.alloc (.cells #[.bool p.neg,.slice an p.num.length cn,.slice ad p.den.length cd,.bool q.neg,.slice bn q.num.length dn,.slice bd q.den.length dd] 51)).alloc (zeP 51)).alloc
   (.cells #[.int .i64 1,.int .i64 0,.int .i64 1,.int .i64 0,.int .i64 0,.int .i64 0,.int .i64 0,.slice (some ⟨w2.heap.size,0,none⟩) 2 2,.slice (some ⟨w2.heap.size+1,0,none⟩) 1 1,.int .i64 5,.int .i64 0,.int .i64 0,.int .i64 0,.int .i64 0,.int .i64 0,.int .i64 0,.slice none 0 0,.slice none 0 0] 44)).alloc
   (.cells #[.slice (some ⟨w.heap.size,0,none⟩) 1 1,.slice (some ⟨w2.heap.size+1+1,0,none⟩) 2 2] 25)=W1
 obtain⟨hi,hla,hc0,hc1,hlt,hbe⟩:=zrK hp1.out hq1.out HB1.out HB2.out b2 b3 HP4.out HP5.out g2 g3 HG4.out HG5.out hAe.symm;obtain⟨FS,hFS⟩:∃FS,FS=za2 (-1) (za4 0) (za4 1):=⟨_,rfl⟩
 have hLow:Calls Tryz.prog 12 #[.agg #[.slice (some ⟨w.heap.size,0,none⟩) 1 1,.slice (some ⟨w2.heap.size+1+1,0,none⟩) 2 2]] W1 (fun e w'=>∃v,e=.returned (.tuple #[v,.int .i64 0])/\zdx w' v ⟨2,[FS],[za4 2]⟩/\Below W1.heap.size W1 w'):=by
  rw[hFS];exact zrn (zpq (m:=exM) 1 2 hi hla znE zrm zl6 Yb)
 obtain⟨HLow,HBe⟩:=hd2 hLow hbe;have HSu:Hid (∀X v u,zai X v (za4 0)->zai X u (za4 1)->Calls Tryz.prog 28 #[v,u] X (zaE X FS)):=fun X v u h1 h2=>by
  rw[hFS];exact zrC h1 h2 (zpv 0 2 Ya) (zpv 1 2 Ya) zq5 Ya
 have HV:Hid (∀X (v:Nat),Calls Tryz.prog 22 #[.int .i64 (v:Int)] X (zaE X (za4 v))):=fun X v=>zna X v
 have HFS:=hid hFS;clear hi hla hbe hAe HP4 HP5 HG4 HG5 HB1 HB2 hLow hFS
 go_wp2_with fail
 refine HLow.out.mono ?_
 rintro e wl ⟨v,rfl,hg,hb⟩;obtain⟨aU,cU,aO,cO,rfl,hcU,hcO,hU,hO⟩:=hg.ex;simp only[ZJ,ZaK,ZO]at hcU hcO;obtain⟨bU,oU,fU,u0,u1,u2,u3,rfl,hbU,hxU,cu0,cu1,cu2,cu3,hvU⟩:=hU.pick (k:=0) Yd;obtain⟨bO,oO,fO,o0,o1,o2,o3,rfl,hbO,hxO,co0,co1,co2,co3,hvO⟩:=hO.pick (k:=0) Yd;obtain rfl:FS=fU:=by simpa using hxU
 obtain rfl:za4 2=fO:=by simpa using hxO
 rw[Zbo,ZW]at cu0 cu1 cu2 cu3 co0 co1 co2 co3;obtain⟨ua,un,uc,ub,uan,unn,ucn,uad,und,ucd,rfl,rfl,rfl,rfl⟩:=hvU.spell;obtain⟨oa,on,oc,ob,oan,onn,ocn,oad,ond,ocd,rfl,rfl,rfl,rfl⟩:=hvO.spell;obtain⟨HUv,HOv⟩:=hd2 hvU.val hvO.val;have HBl:=htr HBe hb;have hal:=blA wl (.cells #[.int .i64 2,.slice (some ⟨bU,oU,none⟩) 1 cU,.slice (some ⟨bO,oO,none⟩) 1 cO] 30);have hbx:=zbn.alloc wl (.int .i64 2) (.slice (some ⟨bU,oU,none⟩) 1 cU) (.slice (some ⟨bO,oO,none⟩) 1 cO) 30;obtain⟨W3,hW3⟩:∃W3,W3=wl.alloc (.cells #[.int .i64 2,.slice (some ⟨bU,oU,none⟩) 1 cU,.slice (some ⟨bO,oO,none⟩) 1 cO] 30):=⟨_,rfl⟩
 rw[<- hW3]at hal hbx;obtain⟨gB,hgB⟩:∃gB,gB=wl.heap.size:=⟨_,rfl⟩
 rw[<- hgB]at hbx;have hlU:=hal.size;have HCe:Hid (∀X,Below W3.heap.size W3 X->X.cell? ⟨gB,0,none⟩=some (.int .i64 2)/\X.cell? ⟨gB,1,none⟩=some (.slice (some ⟨bU,oU,none⟩) 1 cU)/\X.cell? ⟨gB,2,none⟩=some (.slice (some ⟨bO,oO,none⟩) 1 cO)/\gB<X.heap.size/\
   X.cell? ⟨bU,oU,none⟩=some (.slice ua un uc)/\X.cell? ⟨bU,oU+1,none⟩=some (.bool ub)/\X.cell? ⟨bU,oU+2,none⟩=some (.slice uan unn ucn)/\X.cell? ⟨bU,oU+3,none⟩=some (.slice uad und ucd)/\bU<X.heap.size/\
   X.cell? ⟨bO,oO,none⟩=some (.slice oa on oc)/\X.cell? ⟨bO,oO+1,none⟩=some (.bool ob)/\X.cell? ⟨bO,oO+2,none⟩=some (.slice oan onn ocn)/\X.cell? ⟨bO,oO+3,none⟩=some (.slice oad ond ocd)/\bO<X.heap.size):=fun X hB=>by
  have k:=hbx.below hB;have hB2:Below wl.heap.size wl X:=hal.trans (hB.mono hal.size);have hsz:=hB2.size;exact⟨k.c0,k.c1,k.c2,k.lt,(hB2.cell hbU).trans cu0,(hB2.cell hbU).trans cu1,(hB2.cell hbU).trans cu2,(hB2.cell hbU).trans cu3,Ya,
   (hB2.cell hbO).trans co0,(hB2.cell hbO).trans co1,(hB2.cell hbO).trans co2,(hB2.cell hbO).trans co3,Ya⟩
 have HE1:Hid (∀X,Below W3.heap.size W3 X->∀u,zai X u FS->Calls Tryz.prog 21 #[.agg #[.slice ua un uc,.bool ub,.slice uan unn ucn,.slice uad und ucd],u] X (fun e w'=>∃v,e=.returned v/\v=.bool true/\Below X.heap.size X w')):=fun X hB u hu=>by
  refine(zju (HUv.out.below (hal.trans (hB.mono hal.size))) hu).mono ?_
  exact I6
 have HE2:Hid (∀X,Below W3.heap.size W3 X->∀u,zai X u (za4 2)->Calls Tryz.prog 21 #[.agg #[.slice oa on oc,.bool ob,.slice oan onn ocn,.slice oad ond ocd],u] X (fun e w'=>∃v,e=.returned v/\v=.bool true/\Below X.heap.size X w')):=fun X hB u hu=>by
  refine(zju (HOv.out.below (hal.trans (hB.mono hal.size))) hu).mono ?_
  exact I6
 have HBW:=htr HBl hal;obtain⟨HW3,HGB⟩:=hd2 hW3 hgB;clear hg hU hO hvU hvO cu0 cu1 cu2 cu3 co0 co1 co2 co3 hxU hxO hal hbx hW3 hb HLow hgB hlU
 go_upto_region 3 with fail
 try simp only[ZJ,ZaK,ZO]
 rw[<- HGB.out];rw[<- HW3.out]
 refine zah 37 Yc Yc Yc Yc Yb (zcm W3.heap.size W3) (fun w w'=>Below w.heap.size w w') (GQ [.val (.int .i64 0),.val (.bool true),.val (.bool true),.val (.pointer (some ⟨gB,0,none⟩)),.val (.int .i64 2),.val (.bool true),.val (.bool true),.val (.bool true),.val (.pointer (some ⟨gB,1,none⟩)),.val (.slice (some ⟨bU,oU,none⟩) 1 cU),.val (.int .i64 1),.val (.bool true),.val (.bool true),.val (.bool true),.val (.pointer (some ⟨gB,1,none⟩)),.val (.slice (some ⟨bU,oU,none⟩) 1 cU),.val (.pointer (some ⟨bU,oU,none⟩)),.val (.agg #[.slice ua un uc,.bool ub,.slice uan unn ucn,.slice uad und ucd]),.frm (za4 0),.frm (za4 1),.frm FS,.val (.bool true),.val (.bool true),.val (.bool true),.val (.pointer (some ⟨gB,2,none⟩)),.val (.slice (some ⟨bO,oO,none⟩) 1 cO),.val (.int .i64 1),.val (.bool true),.val (.bool true),.val (.bool true),.val (.pointer (some ⟨gB,2,none⟩)),.val (.slice (some ⟨bO,oO,none⟩) 1 cO),.val (.pointer (some ⟨bO,oO,none⟩)),.val (.agg #[.slice oa on oc,.bool ob,.slice oan onn ocn,.slice oad ond ocd]),.frm (za4 2),.val (.bool true),.val (.bool true)]) (fun i v w w' h hb=>zaV h hb) (zcm.start (Za _)) ?_ ?_
 ·intro ops hops;have HOps:=hid hops;clear hops;simp only[Zm,Zv,zbM]
  refine⟨?v0,?v1,?v2,?v3,?v4,?v5,?v6,?v7,?v8,?v9,?v10,?v11,?v12,?v13,?v14,?v15,?v16,?v17,?_,?_,?_,?_,?v22,?v23,?v24,?v25,?v26,?v27,?v28,?v29,?v30,?v31,?v32,?v33,?_,?_,?v36,trivial⟩
  all_goals (intro y' X hR hL;have hB:=hR.base;obtain⟨k0,k1,k2,klt,e0,e1,e2,e3,elt,g0,g1,g2,g3,glt⟩:=HCe.out X hR.be;simp only[zbd,Region.binds,Zj,Ze,Zi,GQ,Zc,Zb]at hL;simp[zg,Act.put])
  case v0|v1|v2|v6|v7|v12|v13|v22|v23|v28|v29|v36=>
   exact Om
  case v3|v4|v5=>
   try simp only[hL]
   clear hL;have HR:=hid hR;clear hR
   refine zb8 (HOps.out 2) 21 rfl rfl ?_
   exact IU
  case v8|v9|v10|v11=>
   try simp only[hL]
   clear hL;have HR:=hid hR;clear hR
   refine zb8 (HOps.out 7) 26 rfl rfl ?_
   exact IU
  case v14|v15|v16|v17=>
   try simp only[hL]
   clear hL;have HR:=hid hR;clear hR
   refine zb8 (HOps.out 13) 32 rfl rfl ?_
   exact IU
  case v24|v25|v26|v27=>
   try simp only[hL]
   clear hL;have HR:=hid hR;clear hR
   refine zb8 (HOps.out 23) 42 rfl rfl ?_
   exact IU
  case v30|v31|v32|v33=>
   try simp only[hL]
   clear hL;have HR:=hid hR;clear hR
   refine zb8 (HOps.out 29) 48 rfl rfl ?_
   exact IU
  ·try simp only[hL]
   clear hL;have HR:=hid hR;clear hR;have HCt:=hid (HV.out X 0);exact Ol
  ·generalize y' 18=y18 at hL⊢;generalize y' 13=y13 at hL⊢;obtain⟨H18,rfl,_⟩:=hL;obtain⟨K18,HR⟩:=hd2 H18 hR;clear hR H18;have HCt:=hid (HV.out X 1);exact Ol
  ·generalize y' 18=y18 at hL⊢;generalize y' 19=y19 at hL⊢;generalize y' 13=y13 at hL⊢;obtain⟨H18,H19,_,rfl,_⟩:=hL;obtain⟨K18,K19,HR⟩:=hd3 H18 H19 hR;clear hR H18 H19;have HCt:=hid (HSu.out X _ _ K18.out K19.out);exact Ol
  ·generalize y' 17=y17 at hL⊢;generalize y' 20=y20 at hL⊢;generalize y' 13=y13 at hL⊢;obtain⟨rfl,H20,_,rfl,_⟩:=hL;obtain⟨K20,HR⟩:=hd2 H20 hR;clear hR H20;have HCt:=hid (HE1.out X HR.out.be _ K20.out);exact Ol
  ·try simp only[hL]
   clear hL;have HR:=hid hR;clear hR;have HCt:=hid (HV.out X 2)
   refine zb8 (HOps.out 29) 48 rfl rfl ?_
   exact Uh
  ·generalize y' 33=y33 at hL⊢;generalize y' 34=y34 at hL⊢;generalize y' 29=y29 at hL⊢;obtain⟨rfl,H34,_,rfl,_⟩:=hL;obtain⟨K34,HR⟩:=hd2 H34 hR;clear hR H34;have HCt:=hid (HE2.out X HR.out.be _ K34.out)
   refine zb8 (HOps.out 29) 48 rfl rfl ?_
   exact Uh
 ·intro ops y' X hR hL;have hB:=hR.base;have J36:=hL.2;simp only[GQ,Zc,Zb]at J36;obtain⟨k0,k1,k2,klt,e0,e1,e2,e3,elt,g0,g1,g2,g3,glt⟩:=HCe.out X hR.be;clear hL;simp only[Zm,Zv,ZD,ZN];simp[zg,Act.put];generalize y' 36=y36 at J36⊢;obtain rfl:=J36;have HR:=hid hR;clear hR;clear k0 k1 k2 klt e0 e1 e2 e3 elt g0 g1 g2 g3 glt;have HBe2:=htr HBW HR.out.be;go_wp2;go_ret;exact⟨rfl,HBe2.out⟩
theorem zs5(c1 c2:Nat)(h1:z9 w Any a1 m.input)(h2:zaO w a2 m.layers)(hr:∀l∈m.layers,zO l)(hs:∀l∈m.layers,zbC l)(hsm:∀l∈m.layers,zdM l)(hl12:m.layers.length<=12)(hE:zdt m=(G,e1))(nI nL:Nat)(hI:nI=m.input.length)(hL:nL=m.layers.length):
  Calls Tryz.prog 12 #[.agg #[.slice a1 nI c1,.slice a2 nL c2]] w (fun e w'=>∃v,e=.returned v/\zsh w' v G e1/\Below w.heap.size w w'):=by
 rw[hI,hL]
 refine(zpq c1 c2 h1 h2 hr hs hsm hl12).mono ?_
 exact Im
theorem ztd(c1 c2:Nat)(h1:z9 w Any a1 m.input)(h2:zaO w a2 m.layers)(hr:∀l∈m.layers,zO l)(hs:∀l∈m.layers,zbC l)(hsm:∀l∈m.layers,zdM l)(hl12:m.layers.length<=12)(hcap:zpG w a2 m.layers)(hE:zdt m=(G,e1)):
  Calls Tryz.prog 13 #[.agg #[.slice a1 m.input.length c1,.slice a2 m.layers.length c2]] w (fun e w'=>∃v,e=.returned v/\zsh w' v G e1/\Below w.heap.size w w'):=by
 refine(zog c1 c2 h1 h2 hr hs hsm hl12 hcap).mono ?_
 exact Im
theorem zl9{va vb:Value}{G1:zdF}(ha:zdx w va G1)(hb:zdx w vb G1):
  Calls Tryz.prog 14 #[va,vb] w fun e w'=>e=.returned (.bool true)/\Below w.heap.size w w':=by
 obtain⟨aU1,cU1,aO1,cO1,rfl,hu1,ho1,hU1,hO1⟩:=ha.ex;obtain⟨aU2,cU2,aO2,cO2,rfl,hu2,ho2,hU2,hO2⟩:=hb.ex;have x1:=zbn.alloc w (.int .i64 (G1.inputs:Int)) (.slice aU1 G1.units.length cU1) (.slice aO1 G1.outs.length cO1) 30;have b1:=blA w (.cells #[.int .i64 (G1.inputs:Int),.slice aU1 G1.units.length cU1,.slice aO1 G1.outs.length cO1] 30);have s1:(w.alloc (.cells #[.int .i64 (G1.inputs:Int),.slice aU1 G1.units.length cU1,.slice aO1 G1.outs.length cO1] 30)).heap.size=w.heap.size+1:=Yd;obtain⟨W1,hW1⟩:∃W1,W1=(w.alloc (.cells #[.int .i64 (G1.inputs:Int),.slice aU1 G1.units.length cU1,.slice aO1 G1.outs.length cO1] 30)):=⟨_,rfl⟩
 rw[<- hW1]at x1 b1 s1;have x2:=zbn.alloc W1 (.int .i64 (G1.inputs:Int)) (.slice aU2 G1.units.length cU2) (.slice aO2 G1.outs.length cO2) 30;have b2:=blA W1 (.cells #[.int .i64 (G1.inputs:Int),.slice aU2 G1.units.length cU2,.slice aO2 G1.outs.length cO2] 30);obtain⟨W2,hW2⟩:∃W2,W2=(W1.alloc (.cells #[.int .i64 (G1.inputs:Int),.slice aU2 G1.units.length cU2,.slice aO2 G1.outs.length cO2] 30)):=⟨_,rfl⟩
 rw[<- hW2]at x2 b2;rw[s1]at x2;obtain⟨HX1,HX2⟩:=hd2 (x1.below b2) x2;have hbb:=b1.trans (b2.mono b1.size);have HB:=hid hbb;have hq1:zlc G1.units G1.units=true:=(zdG _ _).2 rfl;have hq2:zlc G1.outs G1.outs=true:=(zdG _ _).2 rfl;have HC1:=zhi cU1 cU2 (hU1.below zaR hbb) (hU2.below zaR hbb);have HC2:=hid (fun(X:World) (hb:Below W2.heap.size W2 X)=>zhi cO1 cO2 ((hO1.below zaR hbb).below zaR hb) ((hO2.below zaR hbb).below zaR hb));rw[hq1]at HC1;rw[hq2]at HC2;have HC1:=hid HC1;have HW:Hid (((w.alloc (.cells #[.int .i64 (G1.inputs:Int),.slice aU1 G1.units.length cU1,.slice aO1 G1.outs.length cO1] 30)).alloc (.cells #[.int .i64 (G1.inputs:Int),.slice aU2 G1.units.length cU2,.slice aO2 G1.outs.length cO2] 30))=W2):=by rw[hW2,hW1];rfl
 clear ha hb hu1 ho1 hU1 hO1 hu2 ho2 hU2 hO2 x1 b1 s1 hW1 x2 b2 hW2 hbb hq1 hq2
 go_enter Tryz.func14,Tryz.ntmps14
 go_upto_region 1 with fail
 rw[HW.out];clear HW;obtain⟨x0,x1,x2,xf,xlt⟩:=HX1.out;obtain⟨y0,y1,y2,yf,ylt⟩:=HX2.out;have t1:((G1.inputs:Int)==(G1.inputs:Int))=true:=Yd
 go_wp2_with fail
 refine HC1.out.mono ?_
 rintro e w3 ⟨rfl,hb3⟩;have x2:=(hb3.cell xlt).trans x2;have y2:=(hb3.cell ylt).trans y2;have xlt:=Zd xlt hb3.size;have ylt:=Zd ylt hb3.size;have HC2':=hid (HC2.out w3 hb3);have HB3:=htr HB hb3;clear hb3 x0 x1 y0 y1 xf yf HC1 HC2 HB
 go_wp2_with fail
 refine HC2'.out.mono ?_
 rintro e w4 ⟨rfl,hb4⟩;have HB4:=htr HB3 hb4;clear hb4 x2 y2 xlt ylt HC2' HB3;go_wp2;go_ret;exact⟨rfl,HB4.out⟩
theorem zlo{w:World}{m:zgt}{a1 a2:Option Addr}(c1 c2:Nat)(hcap:zpG w a2 m.layers)(h1:z9 w Any a1 m.input)(h2:zaO w a2 m.layers)(hc2:m.layers.length<=c2)(hr:∀l∈m.layers,zO l)(hs:∀l∈m.layers,zbC l):
  Calls Tryz.prog 3 #[.agg #[.slice a1 m.input.length c1,.slice a2 m.layers.length c2]] w fun e w'=>e=.returned (.bool true)/\Below w.heap.size w w':=by
 have q1:=h1.len;have q2:=h2.len;obtain⟨H1,HCap,H2,HRg,HSh⟩:=hd5 h1 hcap h2 hr hs;have hbA:=blA w (.cells #[.slice a1 m.input.length c1,.slice a2 m.layers.length c2] 25);have hx:=za1.alloc w (.slice a1 m.input.length c1) (.slice a2 m.layers.length c2) 25;clear h1 h2 hr hs hcap
 go_enter Tryz.func3,Tryz.ntmps3
 go_upto_region 1 with fail
 generalize w.alloc (.cells #[.slice a1 m.input.length c1,.slice a2 m.layers.length c2] 25)=W at *;obtain⟨HB,HX⟩:=hd2 hbA hx;clear hbA hx
 go_wp2_with fail
 refine(znx W).mono ?_
 rintro e w1 ⟨rfl,hb1⟩;have HB1:=htr HB hb1;have HX1:=hid (HX.out.below hb1);obtain⟨x0,x1,xf,xlt⟩:=HX1.out;have HF:=hid (zqE c1 c2 (H1.out.below HB1.out) (H2.out.below HB1.out) HSh.out);clear hb1 HX
 cases hf:ziV m []with
 | false=>
  rw[hf]at HF;clear hf
  go_wp2_with fail
  refine HF.out.mono ?_
  rintro e w2 ⟨rfl,hb2⟩;have HB2:=htr HB1 hb2;clear hb2 x0 x1 xf xlt
  go_wp2_with fail
  refine(znx w2).mono ?_
  rintro e w3 ⟨rfl,hb3⟩;have HB3:=htr HB2 hb3;clear hb3;go_wp2;go_ret;exact⟨rfl,HB3.out⟩
 | true=>
 rw[hf]at HF;have HP:=hid (zi1 hf);clear hf
 go_wp2_with fail
 refine HF.out.mono ?_
 rintro e w2 ⟨rfl,hb2⟩;have HB2:=htr HB1 hb2;have HX2:=hid (HX1.out.below hb2);clear hb2 x0 x1 xf xlt HF;obtain⟨x0,x1,xf,xlt⟩:=HX2.out;have hl8:=HP.out.lens;obtain⟨G1,e1,hE1⟩:∃G1 e1,zdt m=(G1,e1):=⟨_,_,rfl⟩
 have HE1:=hid hE1;have HL:=hid (zs5 c1 c2 (H1.out.below HB2.out) (H2.out.below HB2.out) HRg.out HSh.out HP.out.sm Ya HE1.out _ _ rfl rfl)
 go_wp2_with fail
 refine HL.out.mono ?_
 rintro e w3 ⟨v,rfl,⟨u,rfl,hg⟩,hb⟩;obtain⟨aU1,cU1,aO1,cO1,rfl,hu1,ho1,hU1,hO1⟩:=hg.ex;have hal:=blA w3 (.cells #[.int .i64 (G1.inputs:Int),.slice aU1 G1.units.length cU1,.slice aO1 G1.outs.length cO1] 30);obtain⟨HGx,HGv,HB4,HX4⟩:=hd4 (zbn.alloc w3 (.int .i64 (G1.inputs:Int)) (.slice aU1 G1.units.length cU1) (.slice aO1 G1.outs.length cO1) 30) (hg.below hal) ((HB2.out.trans (hb.mono HB2.out.size)).trans (hal.mono (HB2.out.trans (hb.mono HB2.out.size)).size)) ((HX2.out.below hb).below hal);clear hb hg hU1 hO1 hal x0 x1 xf xlt HL hu1 ho1 hE1
 go_upto_region 4 with fail
 generalize(w3.alloc (.cells #[.int .i64 (G1.inputs:Int),.slice aU1 G1.units.length cU1,.slice aO1 G1.outs.length cO1] 30))=W4 at *;have HL2:=hid (ztd (m:=m) c1 c2 (H1.out.below HB4.out) (H2.out.below HB4.out) HRg.out HSh.out HP.out.sm Ya (HCap.out.below H2.out HB4.out) HE1.out);obtain⟨x0,x1,xf,xlt⟩:=HX4.out
 go_wp2_with fail
 refine HL2.out.mono ?_
 rintro e w5 ⟨v,rfl,⟨u,rfl,hg⟩,hb⟩;obtain⟨aU2,cU2,aO2,cO2,rfl,hu2,ho2,hU2,hO2⟩:=hg.ex;have hal:=blA w5 (.cells #[.int .i64 (G1.inputs:Int),.slice aU2 G1.units.length cU2,.slice aO2 G1.outs.length cO2] 30);obtain⟨HHx,HHv,HGx6,HGv6,HB6⟩:=hd5 (zbn.alloc w5 (.int .i64 (G1.inputs:Int)) (.slice aU2 G1.units.length cU2) (.slice aO2 G1.outs.length cO2) 30) (hg.below hal) ((HGx.out.below hb).below hal) ((HGv.out.below hb).below hal) ((HB4.out.trans (hb.mono HB4.out.size)).trans (hal.mono (HB4.out.trans (hb.mono HB4.out.size)).size));clear hb hg hU2 hO2 hal x0 x1 xf xlt HL2 hu2 ho2 HGx HGv HX4
 go_upto_region 5 with fail
 generalize(w5.alloc (.cells #[.int .i64 (G1.inputs:Int),.slice aU2 G1.units.length cU2,.slice aO2 G1.outs.length cO2] 30))=W6 at *;have HSm:=hid (zl9 HGv6.out HHv.out);obtain⟨x0,x1,x2,xf,xlt⟩:=HGx6.out;obtain⟨y0,y1,y2,yf,ylt⟩:=HHx.out;have t1:(e1==e1)=true:=Yd
 go_wp2_with fail
 refine HSm.out.mono ?_
 rintro e w7 ⟨rfl,hb⟩;have HB7:=htr HB6 hb;clear hb x0 x1 x2 xf xlt y0 y1 y2 yf ylt;go_wp2;go_ret;exact⟨rfl,HB7.out⟩
