/-
  Contracts: NatI, NatJ, NatK, RatA, RatB, NatL, NatN.
-/
import Derived.Test.YtfgmmghmmfmdgaaGreatY5
import Derived.Test.YtfgmmghmmfmdgaaGreatShelf
import Derived.Lib.ItoaNum
import Derived.Test.YtfgmmghmmfmdgaaGreatY0
set_option linter.all false
set_option maxRecDepth 100000
set_option maxHeartbeats 3200000
namespace Go.Proofs.YtfgmmghmmfmdgaaGreat
open Go.RowKit
open Go.Lib (hid)
variable {P:Prop} {g n T i y x v B q d p:Nat} {w w':World} {m l Q:List Nat} {a b:Option Addr}
theorem TG(h:P:=by
 refine Blk.of_own (base:=w.heap.size) ?_
 have e:(madeCells #[Value.int IntKind.u32 0] (p+1)).toList=(List.range (p+1)).map fun _=>Value.int .u32 ((0:Nat):Int):=by
  simp[Zbs,List.map_const']
 rw[<- e];exact hown
):P:=h
theorem TU(h:P:=by
 clear hb hz hdy;go_wp2;go_roundw
 case rel=>exact⟨k+1,hlt,Yg,XU,HBl2.out _ (by rw[HDn.out,ZW];rfl),HBc.out.setCell (Za _) _⟩
 case measure=>simp[intOf];omega
):P:=h
theorem Eg(h:P:=by refine⟨B,A%B,b1,a3,d1,c3,rfl,rfl,rfl,hd1,h4,hrB,Zl (zl1 A hB0) hrB,HB2,H6,?_,hb2⟩;unfold Hid;rw[<- HG.out,Nat.gcd_comm A B,Nat.gcd_rec B A,Nat.gcd_comm]):P:=h
theorem Es(h:P:=by
 clear hb;go_wp2;go_roundw
 case rel=>exact⟨k+1,hlt,Yg,XU,HBl2.out _ VU,HBc.out.setCell (Za _) _⟩
 case measure=>simp[intOf];omega
):P:=h
theorem Et(h:P:=by
 go_wp2;go_roundw
 case rel=>exact⟨k+1,hlt,Yg,by rw[HH.out,HCn.out],Jt,HBc.out.setCell (Za _) _⟩
 case measure=>simp[intOf];omega
):P:=h
theorem E6(h:P:=by
 intro z hz
 split
 ·exact hcb
 ·unfold zdD;split
  ·exact zh5 _ _ _
  ·show(0:Nat)<4294967296;omega
):P:=h
theorem EI(h:P:=by exact((H8'.out.setCell HN5.out _ _).setCell (HN5.out.setCell _ _ Yd) _ _).setCell ((HN5.out.setCell _ _ Yd).setCell _ _ Yd) _ _):P:=h
theorem Ii(h:P:=by rw[zc5,ZO,<- hv];exact HBl.out.set k v):P:=h
theorem Il(h:P:=by
 ·rw[ZC _ _ _ _ (by intro h;cases h;exact ho rfl)]at e;exact h _ _ e
):P:=h
theorem Io(h:P:=by
 rw[World.cell?_alloc_at _ _ _ _ rfl]
 match j,hj with
 | 0,hj=>simp at hj;subst hj;simp
):P:=h
theorem I9(h:P:=by rw[hl];exact zt.nil _ _):P:=h
theorem Y3(h:P:=by simp[results,Tryz.results128,go_sem,hz,hcell]):P:=h
theorem XU(h:P:=by rw[HCn.out];go_num):P:=h
theorem zfH.blk{g':Nat}{f:Nat->Nat}(h:zfH g w w')(hne:g'≠g)(hb:Blk w g' n f T):Blk w' g' n f T:=by
 unfold Blk at *;exact(h.block g' hne).trans hb
theorem Blk.part{N:Nat}{f:Nat->Nat}(h:Blk w g N f T)(hf:∀i,f i<4294967296){m:Nat}(hi:i+m<=N)(hm:m<=9223372036854775807):zt w (some ⟨g,i,none⟩) ((List.range m).map fun j=>f (i+j)):=by
 refine⟨?_,by simpa using hm,.inr ⟨g,i,rfl,h.lt,fun j d hj=>?_⟩⟩
 ·intro d hd;simp only[ZX,Z5]at hd;obtain⟨j,_,rfl⟩:=hd;exact hf _
 ·rw[ZV]at hj
  rcases Zan j m with hlt|hge
  ·rw[ZaS hlt]at hj;simp at hj;subst hj;exact h.cell Ya
  ·rw[Za2 (by simpa using hge)]at hj;cases hj
theorem zks{s V W k:Nat}(hn:2<=n)(hN:zl3 y n s V)(hW:W<V*4294967296^(k+1)){u:Nat->Nat}(hu:∀i,u i<4294967296)(hv:zx u (n+1)=W/4294967296^k):zdo u (dig (ze V)) n:=by
 have hl:=hN.len Ya;have e:zx (dig (ze V)) n=V:=by have:=zi V;unfold zo at this;rwa [hl]at this
 refine⟨hn,hu,fun i=>zD (zq V) i,hN.digit Ya,?_⟩
 rw[hv,e];exact(zif hN.pos hW).1
def zrR(w:World)(x y:Nat)(e:Ending)(w':World):Prop:=∃a1 c1 a2 c2,e=.returned (.tuple #[.slice a1 (ze (x/y)).length c1,.slice a2 (ze (x%y)).length c2,.int .i64 0])/\
 (ze (x/y)).length<=c1/\(ze (x%y)).length<=c2/\zt w' a1 (ze (x/y))/\zt w' a2 (ze (x%y))/\Below w.heap.size w w'
theorem zi5(c d:Nat)(hc:l.length<=c)(hd:m.length<=d)(h:zt w a l)(g:zt w b m)(hx:zo l=x)(hy:zo m=y)(hr:l.length<=17592186044416)(hxy:x<y):
  Calls Tryz.prog 156 #[.slice a l.length c,.slice b m.length d] w (zrR w x y):=by
 obtain⟨HA,HB⟩:=hd2 (zU c hc h hx) (zU d hd g hy);have hll:=h.len;have hlm:=g.len;have hle:(ze x).length<=l.length:=Yl;have hpos:0<(ze y).length:=ZH.2 (fun e=>Kr);have hy0:(((ze y).length:Int)==0)=false:=bn0 Ya;have HX:=hid hxy;clear h g hx hy hc hd hxy
 go_enter Tryz.func156,Tryz.ntmps156
 go_wp2_with fail
 refine HA.out.mono ?_
 rintro e w' ⟨⟨a1,c1,rfl,hc1,ha1⟩,rfl⟩
 go_wp2_with fail
 refine HB.out.mono ?_
 rintro e w' ⟨⟨b1,d1,rfl,hd1,hb1⟩,rfl⟩;clear HA HB;have HC:=hid (zpR c1 d1 hc1 hd1 ha1 hb1 (zi x) (zi y));rw[zfi HX.out]at HC;have HM:=hid (fun n=>zlM c1 hc1 (ha1.drewN n) Ya);rw[zi x]at HM;clear ha1 hb1
 go_wp2_with fail
 refine HC.out.mono ?_
 rintro e w' ⟨rfl,n,rfl⟩
 go_wp2_with fail
 refine(HM.out n).mono ?_
 rintro e w' ⟨a2,c2,rfl,hc2,ha2,hb2⟩;go_wp2
 go_ret3
 have e1:x/y=0:=ZaA HX.out;have e2:x%y=x:=Zaz HX.out;exact⟨none,0,a2,c2,by rw[e1,e2,zr];rfl,by rw[e1,zr];exact Za _,by rw[e2];exact hc2,by rw[e1,zr];exact zt.nil _ _,by rw[e2];exact ha2,
  (Below.drewN_refl w n).trans hb2⟩
theorem zgq(h:y<=x):0<=zdy x y/\zdy x y<=1:=by unfold zdy;split<;>(try split)<;>omega
theorem zjY(c d:Nat)(hc:l.length<=c)(hd:m.length<=d)(h:zt w a l)(g:zt w b m)(hx:zo l=x)(hy:zo m=y)(hr:l.length<=17592186044416)(hxy:y<=x)(h1:(ze y).length=1):
  Calls Tryz.prog 156 #[.slice a l.length c,.slice b m.length d] w (zrR w x y):=by
 obtain⟨HA,HB⟩:=hd2 (zU c hc h hx) (zU d hd g hy);have hll:=h.len;have hlm:=g.len;have hle:(ze x).length<=l.length:=Yl;have hyd:y=dig (ze y) 0:=by
  obtain⟨lo,e1,e2⟩:=zeZ y Ya;rw[h1]at e1 e2;simp at e1 e2;omega
 have hyl:y<4294967296:=by rw[hyd];exact zD (zq y) 0
 have hy0:0<y:=by
  refine Zak fun e=>?_
  rw[e,zr]at h1;cases h1
 obtain⟨HX,HD⟩:=hd2 hxy hyd;obtain⟨hcv1,hcv2⟩:=zgq hxy;clear h g hx hy hc hd hxy hyd
 go_enter Tryz.func156,Tryz.ntmps156
 go_wp2_with fail
 refine HA.out.mono ?_
 rintro e w' ⟨⟨a1,c1,rfl,hc1,ha1⟩,rfl⟩
 go_wp2_with fail
 refine HB.out.mono ?_
 rintro e w' ⟨⟨b1,d1,rfl,hd1,hb1⟩,rfl⟩;clear HA HB;have HC:=hid (zpR c1 d1 hc1 hd1 ha1 hb1 (zi x) (zi y));generalize zdy x y=cv at *;have HM:=hid (fun n=>zrN c1 y hy0 hyl (ha1.drewN n) Ya);rw[zi x]at HM;obtain⟨bb,bo,rfl,hbb,hcell⟩:=hb1.pick (show 0<(ze y).length from Ya);rw[<- HD.out,ZW]at hcell;clear ha1 hb1;have H1:=hid h1;rw[h1]at HC hd1⊢;clear h1
 go_wp2_with fail
 refine HC.out.mono ?_
 rintro e w' ⟨rfl,n,rfl⟩
 go_wp2_with fail
 refine(HM.out n).mono ?_
 rintro e w' ⟨a2,c2,a3,c3,rfl,h2,h3,h4,h5,h6⟩;go_wp2
 go_ret3
 exact⟨a2,c2,a3,c3,rfl,h2,h3,h4,h5,(Below.drewN_refl w n).trans h6⟩
theorem zhf(hn:0<(ze y).length):zl3 y (ze y).length (32-Lib.bitLen (dig (ze y) ((ze y).length-1))) (y*2^(32-Lib.bitLen (dig (ze y) ((ze y).length-1))))/\Lib.bitLen (dig (ze y) ((ze y).length-1))<=32:=by
 have hd:=zD (zq y) ((ze y).length-1);have h0:dig (ze y) ((ze y).length-1)≠0:=(zbQ y).resolve_left (ZH.1 hn);obtain⟨h1,h2,h3⟩:=Lib.bitLenAux_bounds 64 _ (Nat.lt_trans hd Yb) h0;exact zqs hn h1 h2 h3
theorem zi6{w:World}{a b:Option Addr}{l m:List Nat}{x y:Nat}(c d:Nat)(hc:l.length<=c)(hd:m.length<=d)(h:zt w a l)(g:zt w b m)(hx:zo l=x)(hy:zo m=y)(hr:l.length<=1099511627776)(hxy:y<=x)(h1:2<=(ze y).length):
  Calls Tryz.prog 156 #[.slice a l.length c,.slice b m.length d] w (zrR w x y):=by
 obtain⟨HA,HB⟩:=hd2 (zU c hc h hx) (zU d hd g hy);have hll:=h.len;have hlm:=g.len;have hle:(ze x).length<=l.length:=Yl;have hnx:(ze y).length<=(ze x).length:=zaD hxy;obtain⟨hN,hL⟩:=zhf (y:=y) Ya;have HX:=hid hxy;obtain⟨hcv1,hcv2⟩:=zgq hxy;have hlow:=zmT (y:=y) Ya;have hz1:(((ze y).length:Int)==0)=false:=bn0 Ya;have hz2:(((ze y).length:Int)==1)=false:=bn0 Ya;obtain⟨i0,hi,hz3,hz4,hz5⟩:=info_parts Tryz.infoU32;clear h g hx hy hc hd hxy
 go_enter Tryz.func156,Tryz.ntmps156
 go_wp2_with fail
 refine HA.out.mono ?_
 rintro e w' ⟨⟨a1,c1,rfl,hc1,ha1⟩,rfl⟩
 go_wp2_with fail
 refine HB.out.mono ?_
 rintro e w' ⟨⟨b1,d1,rfl,hd1,hb1⟩,rfl⟩;clear HA HB;have HC:=hid (zpR c1 d1 hc1 hd1 ha1 hb1 (zi x) (zi y));generalize zdy x y=cv at *;obtain⟨bb,bo,rfl,hbb,hcell⟩:=hb1.pick (show(ze y).length-1<(ze y).length from Ya);obtain⟨HA1,HB1,HLow⟩:=hd3 ha1 hb1 hlow;clear ha1 hb1 hlow;obtain⟨nx,hnx'⟩:∃nx,nx=(ze x).length:=⟨_,rfl⟩
 obtain⟨n,hn'⟩:∃n,n=(ze y).length:=⟨_,rfl⟩
 obtain⟨tp,htp⟩:∃tp,tp=dig (ze y) ((ze y).length-1):=⟨_,rfl⟩
 have htl:tp<4294967296:=by rw[htp];exact zD (zq y) _
 rw[<- htp]at hN hL hcell;obtain⟨s,hs⟩:∃s,s=32-Lib.bitLen tp:=⟨_,rfl⟩
 have hsI:Hid (32-(Lib.bitLen tp:Int)=(s:Int)):=Kx;rw[<- hs]at hN;have HN:=hid hN;have hs32:=hN.s32;have HLz:=hid (fun wv=>Tryz.bits_LeadingZeros32 (tp:Int) wv Ya Ya);rw[show((tp:Int)).toNat=tp from Yd,hsI.out]at HLz;obtain⟨HNX,HNY⟩:=hd2 hnx' hn';clear hN htp hs hsI;rw[<- hnx']at hnx hc1 hle HC;rw[<- hn']at HC;rw[<- hn']at hnx h1 hz1 hz2 hd1 hcell HN HLow;rw[<- hnx',<- hn'];clear hnx' hn'
 go_wp2_with fail
 refine HC.out.mono ?_
 rintro e w' ⟨rfl,n1,rfl⟩
 go_wp2_with fail
 refine(HLz.out _).mono ?_
 rintro e w' ⟨rfl,rfl⟩;have hbw:=Below.drewN_refl w n1;obtain⟨HA2,HB2⟩:=hd2 (HA1.out.drewN n1) (HB1.out.drewN n1);clear HC HA1 HB1 HLz hcell;generalize w.drewN n1=w1 at *;have HLa:=hid (zrL c1 s hs32 HA2.out (by rw[<- HNX.out];omega));rw[zi,<- HNX.out]at HLa
 go_wp2_with fail
 refine HLa.out.mono ?_
 rintro e w2 ⟨rfl,hBu,hbu⟩;obtain⟨HBu,HB3⟩:=hd2 hBu (HB2.out.below hbu);have hgu:=hBu.lt;clear HLa HA2 HB2 hBu;have hbase:=hbw.size;generalize hg1:w1.heap.size=gu at *;have HLb:=hid (zrL d1 s hs32 HB3.out (by rw[<- HNY.out];omega));rw[zi,<- HNY.out,<- HN.out.eq]at HLb
 go_wp2_with fail
 refine HLb.out.mono ?_
 rintro e w3 ⟨rfl,hBv,hbv⟩;have hgv:=hBv.lt;have hUv:=hBv.u32s (fun i _=>zdI _ _) Ya;have hVl:=HN.out.len Ya;have hVv:zo ((List.range (n+1)).map (zaw (y*2^s)))=y*2^s:=by
  rw[zby,zeu,Zaz];exact Zd HN.out.lt (ZE Ya Ya)
 have hT:=zkx (n+1) Yd hUv;have hneV:ze (y*2^s)≠[]:=fun e=>by rw[e]at hVl;simp at hVl;omega
 rw[hVv,hVl]at hT;simp only[ZP,Zaj]at hT;obtain⟨HT,HNe,HVl,HBu3⟩:=hd4 hT hneV hVl (HBu.out.below hbv);clear HLb HB3 HBu hUv hVv hT hneV hVl hBv;generalize hg2:w2.heap.size=gv at *
 go_wp2_with fail
 refine HT.out.mono ?_
 rintro e w' ⟨⟨a2,c2,rfl,hc2,hV2,ha2⟩,rfl⟩;have ha3:=ha2.resolve_right HNe.out;subst ha3;have HV:=hid hV2;have hb3:Below w.heap.size w w3:=(hbw.trans (hbu.mono hbase)).trans (hbv.mono Ya);have hs3:=hb3.size;have hgu3:gu<w3.heap.size:=by have:=hbv.size;omega
 have hvu:gv≠gu:=Ya;clear HT hV2 ha2 hbw hbu hbv
 go_wp2_with (at_make;refine wpList_make_full _ rfl _ _ 49 rfl w3.heap.size 109 i0 (.int .u32 0) 1 Tryz.underlying49 hi hz3 hz4 _ _ _ _ (nx-n+1) rfl rfl Ya Ya ?b2 ?b3 (Za _) ?_)
 case b2=>rw[hz5];omega
 case b3=>unfold maxLen;omega
 intro w4 hown hgrow;have HB0:Hid (Blk w4 w3.heap.size (nx-n+1) (fun _=>0) 109):=by
  refine Blk.of_own (base:=w3.heap.size) ?_
  have e:(madeCells #[Value.int IntKind.u32 0] (nx-n+1)).toList=(List.range (nx-n+1)).map fun _=>Value.int .u32 ((0:Nat):Int):=TP
  rw[<- e];exact hown
 have hb4:Below w3.heap.size w3 w4:=(Zg _ _).grown hgrow (Za _) (fun k h=>YG);have HB1:Hid (Blk w4 gu (nx+1) (zaw (x*2^s)) 109):=HBu3.out.below hb4;have HV1:Hid (zt w4 (some ⟨gv,0,none⟩) (ze (y*2^s))):=HV.out.below hb4;have hb5:Below w.heap.size w w4:=hb3.trans (hb4.mono hs3);have HI0:Hid (zdu (x*2^s) (y*2^s) (nx-n+1) (nx-n+1) (x*2^s) (fun _=>0)):=by
  refine zdu.start ?_
  rw[HNX.out];exact HN.out.start Ya HLow.out (by rw[<- HNX.out];exact hnx)
 clear hown hgrow HBu3 HV hb3 hb4 hz3 hz4 hz5 hi HLow hz1 hz2 hcv1 hcv2;generalize hg3:w3.heap.size=go at *;generalize hVe:y*2^s=V at *;have HVe:=hid hVe;clear hVe hg1 hg2 hg3;go_wp2
 go_loopw [13] (fun i wr=>∃k W:Nat,∃I:Int,∃o:Nat->Nat,k<=nx-n+1/\I+1=(k:Int)/\i=.int .i64 I/\Hid (zdu (x*2^s) V (nx-n+1) k W o)/\Hid (Blk wr gu (nx+1) (zaw W) 109)/\
  Hid (Blk wr go (nx-n+1) o 109)/\Hid (zt wr (some ⟨gv,0,none⟩) (ze V))/\Below w.heap.size w wr) (fun i _=>(intOf i+1).toNat)
 case atStart=>exact⟨nx-n+1,x*2^s,_,_,Za _,Ya,rfl,HI0,HB1,HB0,HV1,hb5⟩
 case round=>
  clear HB0 HB1 HV1 HI0 hb5;obtain⟨k,W,I,o,hk,hI,rfl,HI,HBu,HBo,HV,hb⟩:=hrel
  cases k with
  | zero=>
   obtain rfl:I= -1:=Ya;obtain⟨hq,hw⟩:=HI.out.done;have hsc:=zk0 x y s;rw[HVe.out]at hsc;have hWl:W<4294967296^(nx+1):=by
    have:W<V:=by rw[hw];exact Z1 _ HN.out.pos
    exact Nat.lt_trans this (Zd HN.out.lt (ZE Ya Ya))
   have hUu:=HBu.out.u32s (fun i _=>zdI W i) Ya;have hUo:=HBo.out.u32s (fun i _=>HI.out.lim i) Ya;have hvu2:zo ((List.range (nx+1)).map (zaw W))=W:=by rw[zby,zeu,Zaz hWl]
   have hvo:zo ((List.range (nx-n+1)).map o)=x/y:=by rw[zby,hq,hsc.1]
   have hwr:W/2^s=x%y:=by rw[hw,hsc.2]
   have HS:=zta (nx+1) s Ya Yd hUu hvu2 Yj;rw[hwr]at HS;have HT:=fun(wv:World) (hh:zt wv (some ⟨go,0,none⟩) ((List.range (nx-n+1)).map o))=>zU (nx-n+1) Yd hh hvo
   simp only[ZP,Zaj]at HS HT;obtain⟨HS',HT',HUo⟩:=hd3 HS HT hUo;clear HS HT hUu hUo hvu2 hvo hwr hq hw hsc hWl
   go_wp2_with fail
   refine HS'.out.mono ?_
   rintro e w' ⟨a5,c5,rfl,h5,h6,h7⟩;obtain⟨H6,HT2⟩:=hd2 h6 (HT'.out w' (HUo.out.below h7));clear h6
   go_wp2_with fail
   refine HT2.out.mono ?_
   rintro e w'' ⟨⟨a6,c6,rfl,h8,h9⟩,rfl⟩;have H9:=hid h9;clear h9;go_wp2
   go_ret3
   exact⟨a6,c6,a5,c5,rfl,h8,h5,H9.out,H6.out,hb.trans (h7.mono hb.size)⟩
  | succ k=>
   obtain rfl:I=(k:Int):=Ya;have hne1:¬ k=nx+1:=Ya;have hsl:k+n+1-k=n+1:=Ya;have hkN:k<nx-n+1:=Ya;have hVl:(ze V).length=n:=HVl.out;have hVv:zx (dig (ze V)) n=V:=by have:=zi V;unfold zo at this;rwa [hVl]at this
   have hW1:W<4294967296^(k+(n+1)):=by
    have h1:=HI.out.lt;have h2:=HN.out.lt;have h3:V*4294967296^(k+1)<4294967296^n*4294967296^(k+1):=Nat.mul_lt_mul_of_pos_right h2 (zbG _);rw[<- Zaf,show n+(k+1)=k+(n+1)from Ya]at h3;omega
   have hUl:((List.range (n+1)).map fun j=>zaw W (k+j)).length=n+1:=Yd;have hUs:=HBu.out.part (zdI W) (i:=k) (m:=n+1) Ya Ya;have hUv:zx (dig ((List.range (n+1)).map fun j=>zaw W (k+j))) (n+1)=W/4294967296^k:=by
    rw[zac (g:=fun j=>zaw W (k+j)) (fun j hj=>zne (f:=fun j=>zaw W (k+j)) hj)];exact zcU hW1
   have hKn:=zks h1 HN.out HI.out.lt (fun i=>zD hUs.lim i) hUv;have hKr:=zks h1 HN.out HI.out.lt (u:=fun j=>zaw W (k+j)) (fun i=>zdI _ _) (zcU hW1);have HE:=hid (zmD (nx+1-k) c2 n hVl hUl Ya hUs HV.out hKn);rw[hUv,hVv]at HE;have HR:=hid (fun(q:Nat) (wv:World) (hbl:Blk wv gu (nx+1) (zaw W) 109) (hvv:zt wv (some ⟨gv,0,none⟩) (ze V)) (hq1:W/4294967296^k/V<=q) (hq2:q<=W/4294967296^k/V+1) (hq3:q<=4294967296)=>
    zp1 (nx+1-k) c2 n q hbl (zdI W) hVl Ya Ya hvu hvv (u:=fun j=>zaw W (k+j)) (fun _=>rfl) hKr (by rw[zcU hW1,hVv];exact hq1) (by rw[zcU hW1,hVv];exact hq2) hq3)
   rw[zcU hW1,hVv]at HR;have HW1:=hid hW1;clear hVl hVv hUl hUs hUv hKn hKr hW1
   go_wp2_with fail
   refine HE.out.mono ?_
   rintro e w' ⟨⟨q,rfl,hq1,hq2,hq3⟩,hbe⟩;have hRq:=HR.out q w' (HBu.out.below hbe) (HV.out.below hbe) hq1 hq2 hq3;obtain⟨HRq,HBo2,HV2⟩:=hd3 hRq (HBo.out.below hbe) (HV.out.below hbe);have hb2:=hb.trans (hbe.mono hb.size);clear HE HR hq1 hq2 hq3 hRq HBo HV HBu hb hbe
   go_wp2_with fail
   refine HRq.out.mono ?_
   rintro e w5 ⟨rfl,hB5,hO5⟩;have hogu:go≠gu:=Ya;obtain⟨HB5,HBo5,HV5⟩:=hd3 hB5 (hO5.blk hogu HBo2.out) (hO5.u32s hvu HV2.out);have hb5:=hb2.trans (hO5.below (B:=w.heap.size) Ya);have f1:=HBo5.out.free k;have hkc:=HBo5.out.cell hkN;have hq:=HI.out.quo HN.out.pos;generalize hQe:W/4294967296^k/V=Q at *;have HQe:=hid hQe;clear HRq HBo2 HV2 hb2 hB5 hO5 hQe;go_wp2;go_roundw
   case rel=>
    refine⟨k,zrU V k W,(k:Int)-1,zqL V k W o,Ya,Ya,rfl,HI.out.step HN.out.pos hkN,?_,?_,?_,hb5.setCell (by show w.heap.size<=go;omega) _⟩
    ·refine(((zfH.refl go w5).setCell k _).blk Ya HB5.out).congr (fun i hi=>?_)
     have hX:W/4294967296^k%V<4294967296^n:=Nat.lt_trans (Z1 _ HN.out.pos) HN.out.lt;have e:=zmf (i:=k) hX i (by rw[ZaT];exact HW1.out);unfold zrU;rw[e];unfold zdD
     by_cases h5:i<k
     ·rw[Zq h5,Zh Ya]
     ·rw[Zh h5]
      by_cases h6:i<k+n
      ·rw[Zq h6,Zq Ya]
      ·rw[Zh h6]
       by_cases h7:i<k+(n+1)
       ·rw[Zq Ya,zaP (Zd hX (ZE Ya Ya))]
       ·rw[Zh Ya,zaP (Zd HW1.out (ZE Ya Ya))]
    ·refine(HBo5.out.set k Q).congr (fun i hi=>?_)
     unfold zqL;rw[HQe.out]
    ·exact((zfH.refl go w5).setCell k _).u32s Ya HV5.out
   case measure=>simp[intOf]
theorem zid(c d:Nat)(hc:l.length<=c)(hd:m.length<=d)(h:zt w a l)(g:zt w b m)(hx:zo l=x)(hy:zo m=y)(hr:l.length<=1099511627776)(hy0:0<y):
  Calls Tryz.prog 156 #[.slice a l.length c,.slice b m.length d] w (zrR w x y):=by
 rcases Zan x y with hlt|hge
 ·exact zi5 c d hc hd h g hx hy Ya hlt
 ·have hp:0<(ze y).length:=ZH.2 (fun e=>Kr)
  by_cases h1:(ze y).length=1
  ·exact zjY c d hc hd h g hx hy Ya hge h1
  ·exact zi6 c d hc hd h g hx hy hr hge Ya
theorem zrh(c:Nat)(hc:l.length<=c)(h:zt w a l)(hx:zo l=v)(hv:(ze v).length<=2):
  Calls Tryz.prog 168 #[.slice a l.length c] w fun e w'=>e=.returned (.tuple #[.int .u64 (v:Int),.bool true])/\w=w':=by
 have HA:=hid (zU c hc h hx);have hll:=h.len;clear h hx hc
 go_enter Tryz.func168,Tryz.ntmps168
 go_wp2_with fail
 refine HA.out.mono ?_
 rintro e w' ⟨⟨a1,c1,rfl,hc1,ha1⟩,rfl⟩;have HU:=hid ha1;clear HA ha1;go_wp2
 go_loop [4,14] (fun x i=>∃k X:Nat,k<=(ze v).length/\i=.int .i64 (k:Int)/\x=.int .u64 (X:Int)/\Hid (X=zx (dig (ze v)) k)) (fun _ i=>(ze v).length-(intOf i).toNat)
 case atStart=>exact⟨0,0,Zs _,rfl,rfl,rfl⟩
 case round=>
  obtain⟨k,X,hk,rfl,rfl,HX⟩:=hrel
  by_cases hlt:k<(ze v).length
  ·obtain⟨p1,o1,rfl,hp1,q1⟩:=HU.out.pick hlt;have hd:=zD (zq v) k;have hk2:k=0∨k=1:=Ya
   rcases hk2 with rfl|rfl
   ·have h0:X=0:=HX.out;subst h0;have E:bits .or .u64 0 (dig (ze v) 0:Int)=((dig (ze v) 0:Nat):Int):=by
     have:=bits_or_u64_nat 0 (dig (ze v) 0) Ya Ya
     simpa using this
    rw[ZW]at q1;go_wp2;exact⟨⟨1,_,hlt,rfl,rfl,by unfold Hid;simp[zx]⟩,by simp[intOf];omega⟩
   ·have hX:X=dig (ze v) 0:=by rw[HX.out];simp[zx]
    have hXl:X<4294967296:=by rw[hX];exact zD (zq v) 0
    have HX0:=hid hX;have E:bits .or .u64 (X:Int) ((dig (ze v) 1:Int)*4294967296)=((X+dig (ze v) 1*4294967296:Nat):Int):=by
     rw[show((dig (ze v) 1:Int)*4294967296)=((dig (ze v) 1*4294967296:Nat):Int)from Ya,bits_or_u64_nat _ _ Ya Ya]
     congr 1
     exact zgz (k:=32) Ya Ya
    clear hX;go_wp2;exact⟨⟨2,X+dig (ze v) 1*4294967296,hlt,rfl,rfl,by unfold Hid;rw[HX0.out];simp[zx]⟩,by simp[intOf];omega⟩
  ·have hXv:X=v:=by
    have e:k=(ze v).length:=Ya;rw[HX.out,e];exact zi v
   have HXv:=hid hXv;clear hXv;go_wp2
   go_ret2
   exact⟨by rw[HXv.out];rfl,rfl⟩
theorem zhs(c:Nat)(hc:l.length<=c)(h:zt w a l)(hx:zo l=0):
  Calls Tryz.prog 166 #[.slice a l.length c] w fun e w'=>e=.returned (.int .i64 0)/\w=w':=by
 have HA:=hid (zU c hc h hx);rw[zr]at HA;have hll:=h.len;clear h hx hc
 go_enter Tryz.func166,Tryz.ntmps166
 go_wp2_with fail
 refine HA.out.mono ?_
 rintro e w' ⟨⟨a1,c1,rfl,hc1,ha1⟩,rfl⟩;clear HA;go_wp2;go_ret;exact⟨rfl,rfl⟩
theorem ziL(c:Nat)(hc:l.length<=c)(h:zt w a l)(hx:zo l=v)(hv:v≠0)(hr:l.length<=17592186044416):
  Calls Tryz.prog 166 #[.slice a l.length c] w fun e w'=>(∃n:Nat,e=.returned (.int .i64 (n:Int))/\0<n/\n<=9223372036854775807)/\w=w':=by
 have HA:=hid (zU c hc h hx);have hll:=h.len;have hle:(ze v).length<=l.length:=Yl;have hp:0<(ze v).length:=ZH.2 (fun e=>Kr);have hz1:(((ze v).length:Int)==0)=false:=bn0 Ya;obtain⟨_,hL⟩:=zhf (y:=v) hp;obtain⟨hl1,_,_⟩:=Lib.bitLenAux_bounds 64 _ (Nat.lt_trans (zD (zq v) ((ze v).length-1)) Yb) ((zbQ v).resolve_left (ZH.1 hp));have hl1':1<=Lib.bitLen (dig (ze v) ((ze v).length-1)):=hl1;have hdl:=zD (zq v) ((ze v).length-1);have HL:=hid (fun wv=>Tryz.bits_Len32 ((dig (ze v) ((ze v).length-1):Nat):Int) wv Ya Ya);rw[show(((dig (ze v) ((ze v).length-1):Nat):Int)).toNat=dig (ze v) ((ze v).length-1)from Yd]at HL;clear h hx hc hl1;generalize hbl:Lib.bitLen (dig (ze v) ((ze v).length-1))=bl at *;clear hbl
 go_enter Tryz.func166,Tryz.ntmps166
 go_wp2_with fail
 refine HA.out.mono ?_
 rintro e w' ⟨⟨a1,c1,rfl,hc1,ha1⟩,rfl⟩;obtain⟨bb,bo,rfl,hbb,hcell⟩:=ha1.pick (show(ze v).length-1<(ze v).length from Ya);clear HA ha1
 go_wp2_with fail
 refine(HL.out _).mono ?_
 rintro e w' ⟨rfl,rfl⟩;go_wp2;go_ret;exact⟨⟨32*((ze v).length-1)+bl,zaH Ya,Ya,Ya⟩,rfl⟩
theorem zeX(h:(ze v).length<=2):v<18446744073709551616:=
 Zd (zaS v) (Zl (ZE Ya h) Yb)
theorem zl1(A:Nat)(hB:0<B):(ze (A%B)).length<=(ze B).length:=zaD (Z6 (Z1 _ hB))
theorem zaj:0<(ze B).length ↔ 0<B:=by
 rw[ZH]
 constructor
 ·intro h;exact Zak fun e=>h (by rw[e,zr])
 ·intro h e;have:=ziP.1 e;omega
theorem zs7(c d:Nat)(hc:l.length<=c)(hd:m.length<=d)(h:zt w a l)(g:zt w b m)(hx:zo l=x)(hy:zo m=y)(hr:l.length<=1099511627776)(hr2:m.length<=1099511627776):
  Calls Tryz.prog 155 #[.slice a l.length c,.slice b m.length d] w (znQ w (Nat.gcd x y)):=by
 obtain⟨HA,HB⟩:=hd2 (zU c hc h hx) (zU d hd g hy);have hll:=h.len;have hlm:=g.len;have hle:(ze x).length<=l.length:=Yl;have hle2:(ze y).length<=m.length:=Y1;clear h g hx hy hc hd
 go_enter Tryz.func155,Tryz.ntmps155
 go_wp2_with fail
 refine HA.out.mono ?_
 rintro e w' ⟨⟨a1,c1,rfl,hc1,ha1⟩,rfl⟩
 go_wp2_with fail
 refine HB.out.mono ?_
 rintro e w' ⟨⟨b1,d1,rfl,hd1,hb1⟩,rfl⟩;obtain⟨HA1,HB1⟩:=hd2 ha1 hb1;clear HA HB ha1 hb1;go_wp2
 go_loopg [0,1] y (fun k p q wr=>∃(A B:Nat) (a1 b1:Option Addr) (c1 d1:Nat),k=B/\p=.slice a1 (ze A).length c1/\q=.slice b1 (ze B).length d1/\(ze A).length<=c1/\(ze B).length<=d1/\(ze A).length<=1099511627776/\(ze B).length<=1099511627776/\Hid (zt wr a1 (ze A))/\Hid (zt wr b1 (ze B))/\Hid (Nat.gcd A B=Nat.gcd x y)/\Below w.heap.size w wr)
 case atStart=>exact⟨x,y,a1,b1,c1,d1,rfl,rfl,rfl,hc1,hd1,Ya,Ya,HA1,HB1,rfl,Zg _ _⟩
 case round=>
  clear HA1 HB1 hc1 hd1 hle hle2 hll hlm hr hr2;obtain⟨A,B,a1,b1,c1,d1,hgk,rfl,rfl,hc1,hd1,hrA,hrB,HA1,HB1,HG,hb⟩:=hrel;have HGk:=hid hgk;clear hgk
  by_cases h2:2<(ze B).length
  ·have hB0:0<B:=zaj.1 Ya;have HD:=hid (zid c1 d1 hc1 hd1 HA1.out HB1.out (zi A) (zi B) hrA hB0)
   go_wp2_with fail
   refine HD.out.mono ?_
   rintro e w' ⟨a2,c2,a3,c3,rfl,h3,h4,h5,h6,h7⟩;obtain⟨H6,HB2⟩:=hd2 h6 (HB1.out.below h7);have hb2:=hb.trans (h7.mono hb.size);clear HD h5 h6 h7 HA1 HB1 hb;go_wp2
   go_roundg (A%B)
   case measure=>rw[HGk.out];exact Z1 _ hB0
   case rel=>
    exact Eg
  ·by_cases h0:B=0
   ·subst h0;have HM:=hid (zlM c1 hc1 HA1.out Ya);rw[zi]at HM;have HG0:Hid (A=Nat.gcd x y):=Kk;rw[zr]at *
    go_wp2_with fail
    refine HM.out.mono ?_
    rintro e w' ⟨a2,c2,rfl,h3,h4,h5⟩;go_wp2;go_ret
    refine⟨a2,c2,?_,?_,?_,hb.trans (h5.mono hb.size)⟩
    ·rw[<- HG0.out];rfl
    ·rw[<- HG0.out];exact h3
    ·rw[<- HG0.out];exact h4
   ·have hB0:0<B:=Zak h0;have hz1:(((ze B).length:Int)==0)=false:=by have:=zaj.2 hB0;rw[Z7];omega
    have HD:=hid (zid c1 d1 hc1 hd1 HA1.out HB1.out (zi A) (zi B) hrA hB0);have hml:=zl1 A hB0;have HB0:=hid hB0;clear h0
    go_wp2_with fail
    refine HD.out.mono ?_
    rintro e w' ⟨a2,c2,a3,c3,rfl,h3,h4,h5,h6,h7⟩;obtain⟨HU1,HU2⟩:=hd2 (zrh d1 hd1 (HB1.out.below h7) (zi B) Ya) (zrh c3 h4 h6 (zi (A%B)) Ya);have hb2:=hb.trans (h7.mono hb.size);have hl1:=zeX (v:=B) Ya;have hl2:=zeX (v:=A%B) Ya;have HG2:Hid (Nat.gcd B (A%B)=Nat.gcd x y):=by
     unfold Hid;rw[<- HG.out,Nat.gcd_comm A B,Nat.gcd_rec B A,Nat.gcd_comm]
    obtain⟨HL1,HL2⟩:=hd2 hl1 hl2;clear HD h5 h6 h7 HA1 HB1 hb hl1 hl2 hml
    go_wp2_with fail
    refine HU1.out.mono ?_
    rintro e w' ⟨rfl,rfl⟩
    go_wp2_with fail
    refine HU2.out.mono ?_
    rintro e w' ⟨rfl,rfl⟩;generalize hR:A%B=R at *;have HR:=hid hR;clear hR HU1 HU2;go_wp2
    go_loopw [11,13] (fun p q wr=>∃X Y:Nat,p=.int .u64 (X:Int)/\q=.int .u64 (Y:Int)/\Hid (X<18446744073709551616)/\Hid (Y<18446744073709551616)/\Hid (Nat.gcd X Y=Nat.gcd x y)/\Below w.heap.size w wr) (fun _ q _=>(intOf q).toNat)
    case atStart=>exact⟨B,R,rfl,rfl,HL1,HL2,HG2,hb2⟩
    case round=>
     clear hb2 HL1 HL2 HG2;obtain⟨X,Y,rfl,rfl,HX,HY,HGr,hb⟩:=hrel
     by_cases hY:Y=0
     ·subst hY;have HO:=hid (nOf X HX.out wr);have HXg:Hid (X=Nat.gcd x y):=by have:=HGr.out;rw[Nat.gcd_zero_right]at this;exact this
      go_wp2_with fail
      refine HO.out.mono ?_
      rintro e w' ⟨a2,c2,rfl,h3,h4,h5⟩;go_wp2;go_ret
      refine⟨a2,c2,?_,?_,?_,hb.trans (h5.mono hb.size)⟩
      ·rw[<- HXg.out];rfl
      ·rw[<- HXg.out];exact h3
      ·rw[<- HXg.out];exact h4
     ·have hY0:0<Y:=Zak hY;have hYz:((Y:Int)==0)=false:=bn0 Ya;have hYd:decide ((0:Int)<(Y:Int))=true:=Xb;have D2:=zeY X Y;have HmY:=hid (Z1 X hY0);go_wp2
      go_quiet (fail)
      go_wp2;have e:((X:Int)%(Y:Int))=((X%Y:Nat):Int):=Yd;rw[e]
      refine⟨⟨Y,X%Y,rfl,rfl,HY.out,Nat.lt_trans HmY.out HY.out,?_,hb.trans (Below.drewN_refl wr nq |>.mono hb.size)⟩,?_⟩
      ·unfold Hid;rw[<- HGr.out,Nat.gcd_comm X Y,Nat.gcd_rec Y X,Nat.gcd_comm]
      ·simp only[intOf,ZaM];exact HmY.out
theorem zho{C o:Nat}(hC:C<4294967296)(hx:x<4294967296)(hy:y<4294967296)(ho:o<4294967296):IntKind.u64.wrap ((C:Int)+IntKind.u64.wrap (IntKind.u64.wrap ((x:Int)*(y:Int))+(o:Int)))=((C+x*y+o:Nat):Int):=by
 have h1:=zmX hx hy;rw[show((x:Int)*(y:Int))=((x*y:Nat):Int)from Yd,IntKind.wrap_u64,IntKind.wrap_u64,IntKind.wrap_u64];generalize x*y=A at h1⊢;omega
theorem zjf{f:Nat->Nat}{y:Nat->Nat}(hf:∀j,f j<4294967296)(hx:x<4294967296)(hy:∀j,y j<4294967296)(i m j:Nat):zbE f x y i m j<4294967296:=by
 unfold zbE
 split
 ·exact hf _
 ·split
  ·exact zno _ _ _ _
  ·split
   ·exact zhE hx hy (fun k=>hf _) _
   ·exact hf _
theorem zgy(f:Nat->Nat)(x:Nat)(y:Nat->Nat)(i m z:Nat):(if z=i+m then zfO x y (fun k=>f (i+k)) m else zdD f i (zip x y (fun k=>f (i+k))) m z)=zbE f x y i m z:=by
 unfold zbE zdD
 by_cases h1:z=i+m
 ·rw[Zq h1,Zh Ya,Zh Ya,Zq h1]
 ·rw[Zh h1]
  by_cases h2:z<i
  ·rw[Zq h2,Zh Ya]
  ·rw[Zh h2]
   by_cases h3:z<i+m
   ·rw[Zq h3,Zq Ya]
   ·rw[Zh h3,Zh Ya,Zh h1]
structure zeU (x Y:Nat) (q i:Nat) (f:Nat->Nat):Prop where
 val:zx f (i+q)=zx (dig (ze x)) i*Y
 zero:∀j,i+q<=j->f j=0
 lim:∀j,f j<4294967296
theorem zeU.start(x Y q:Nat):zeU x Y q 0 (fun _=>0):=⟨Js,fun _ _=>rfl,fun _=>Ya⟩
theorem zeU.step{f:Nat->Nat}(h:zeU x y q i f)(hq:q=(ze y).length):zeU x y q (i+1) (zbE f (dig (ze x) i) (dig (ze y)) i q):=by
 have hd:∀z j,dig (ze z) j<4294967296:=fun z j=>zD (zq z) j
 refine⟨?_,fun j hj=>?_,fun j=>zjf h.lim (hd _ _) (fun j=>hd _ j) i q j⟩
 ·rw[show i+1+q=i+q+1 from Ya,zhr,h.val,hq,show zx (dig (ze y)) (ze y).length=y from zi y];simp only[zx];rw[ZI,Zbi]
 ·unfold zbE;rw[Zh Ya,Zh Ya,Zh Ya];exact h.zero j Ya
theorem zeU.done{f:Nat->Nat}(h:zeU x y q (ze x).length f):zx f ((ze x).length+q)=x*y:=by
 rw[h.val,show zx (dig (ze x)) (ze x).length=x from zi x]
theorem zmO(c d:Nat)(hc:l.length<=c)(hd:m.length<=d)(h:zt w a l)(g:zt w b m)(hx:zo l=x)(hy:zo m=y)(hxy:x=0∨y=0):
  Calls Tryz.prog 161 #[.slice a l.length c,.slice b m.length d] w fun e w'=>e=.returned (.slice none 0 0)/\w=w':=by
 obtain⟨HA,HB⟩:=hd2 (zU c hc h hx) (zU d hd g hy);have hll:=h.len;have hlm:=g.len;have hl1:=(zz h.lim)
 rw[hx]at hl1;clear h g hx hy hc hd
 by_cases hx0:x=0
 ·subst hx0;rw[zr]at HA;clear hxy hl1
  go_enter Tryz.func161,Tryz.ntmps161
  go_wp2_with fail
  refine HA.out.mono ?_
  rintro e w' ⟨⟨a1,c1,rfl,hc1,ha1⟩,rfl⟩
  go_wp2_with fail
  refine HB.out.mono ?_
  rintro e w' ⟨⟨b1,d1,rfl,hd1,hb1⟩,rfl⟩;clear HA HB;go_wp2;go_ret;exact⟨rfl,rfl⟩
 ·have hy0:y=0:=hxy.resolve_left hx0;subst hy0;have hp:=zaj.2 (Zak hx0);have hz:(((ze x).length:Int)==0)=false:=bn0 Ya;rw[zr]at HB;clear hxy hx0
  go_enter Tryz.func161,Tryz.ntmps161
  go_wp2_with fail
  refine HA.out.mono ?_
  rintro e w' ⟨⟨a1,c1,rfl,hc1,ha1⟩,rfl⟩
  go_wp2_with fail
  refine HB.out.mono ?_
  rintro e w' ⟨⟨b1,d1,rfl,hd1,hb1⟩,rfl⟩;clear HA HB;go_wp2;go_ret;exact⟨rfl,rfl⟩
theorem zoK(c d:Nat)(hc:l.length<=c)(hd:m.length<=d)(h:zt w a l)(g:zt w b m)(hx:zo l=x)(hy:zo m=y)(hx0:0<x)(hy0:0<y)(hr:l.length+m.length<=17592186044416):
  Calls Tryz.prog 161 #[.slice a l.length c,.slice b m.length d] w (znQ w (x*y)):=by
 obtain⟨HA,HB⟩:=hd2 (zU c hc h hx) (zU d hd g hy);have hll:=h.len;have hlm:=g.len;have hle:(ze x).length<=l.length:=Yl;have hle2:(ze y).length<=m.length:=Y1;have hpx:=zaj.2 hx0;have hpy:=zaj.2 hy0;have hz1:(((ze x).length:Int)==0)=false:=bn0 Ya;have hz2:(((ze y).length:Int)==0)=false:=bn0 Ya;obtain⟨i0,hi,hz3,hz4,hz5⟩:=info_parts Tryz.infoU32;clear h g hx hy hc hd hx0 hy0
 go_enter Tryz.func161,Tryz.ntmps161
 go_wp2_with fail
 refine HA.out.mono ?_
 rintro e w' ⟨⟨a1,c1,rfl,hc1,ha1⟩,rfl⟩
 go_wp2_with fail
 refine HB.out.mono ?_
 rintro e w' ⟨⟨b1,d1,rfl,hd1,hb1⟩,rfl⟩;obtain⟨HX,HY⟩:=hd2 ha1 hb1;have hrr:(ze x).length+(ze y).length<=17592186044416:=Ya;clear HA HB ha1 hb1 hle hle2 hr hll hlm;obtain⟨p,hp⟩:∃p,p=(ze x).length:=⟨_,rfl⟩
 obtain⟨q,hq⟩:∃q,q=(ze y).length:=⟨_,rfl⟩
 obtain⟨HP,HQ⟩:=hd2 hp hq;rw[<- hp]at hc1 hpx hz1 hrr⊢;rw[<- hq]at hd1 hpy hz2 hrr⊢;clear hp hq
 go_wp2_with (at_make;refine wpList_make_full _ rfl _ _ 49 rfl w.heap.size 109 i0 (.int .u32 0) 1 Tryz.underlying49 hi hz3 hz4 _ _ _ _ (p+q) rfl rfl Ya Ya ?b2 ?b3 (Za _) ?_)
 case b2=>rw[hz5];omega
 case b3=>unfold maxLen;omega
 intro w1 hown hgrow;have HB0:Hid (Blk w1 w.heap.size (p+q) (fun _=>0) 109):=by
  refine Blk.of_own (base:=w.heap.size) ?_
  have e:(madeCells #[Value.int IntKind.u32 0] (p+q)).toList=(List.range (p+q)).map fun _=>Value.int .u32 ((0:Nat):Int):=TP
  rw[<- e];exact hown
 have hb1:Below w.heap.size w w1:=(Zg _ _).grown hgrow (Za _) (fun k h=>YG);clear hown hgrow hz1 hz2 hz3 hz4 hz5 hi;go_wp2
 go_loopw [31] (fun i wr=>∃j:Nat,∃f:Nat->Nat,j<=p/\i=.int .i64 (j:Int)/\Hid (zeU x y q j f)/\Hid (Blk wr w.heap.size (p+q) f 109)/\Below w.heap.size w wr) (fun i _=>p-(intOf i).toNat)
 case atStart=>exact⟨0,fun _=>0,Zs _,rfl,zeU.start _ _ _,HB0,hb1⟩
 case round=>
  clear HB0 hb1;obtain⟨j,f,hj,rfl,HI,HBl,hb⟩:=hrel
  by_cases hlt:j<p
  ·obtain⟨p1,o1,rfl,hp1,q1⟩:=(HX.out.below hb).pick (k:=j) Xh;have hdx:=zD (zq x) j;have HYr:=hid (HY.out.below hb);obtain⟨wo,hwo⟩:∃wo:World,wo=wr:=⟨_,rfl⟩
   subst hwo;go_wp2
   go_loopw [8,38] (fun cv i wr=>∃k C:Nat,k<=q/\i=.int .i64 (k:Int)/\cv=.int .u64 (C:Int)/\Hid (C=zfO (dig (ze x) j) (dig (ze y)) (fun k=>f (j+k)) k)/\
    Hid (Blk wr w.heap.size (p+q) (zdD f j (zip (dig (ze x) j) (dig (ze y)) (fun k=>f (j+k))) k) 109)/\Below w.heap.size w wr) (fun _ i _=>q-(intOf i).toNat)
   case atStart=>exact⟨0,0,Zs _,rfl,rfl,rfl,JM,hb⟩
   case round=>
    clear HBl hb HYr q1;obtain⟨k,C,hk,rfl,rfl,HC,HBl,hb⟩:=hrel;have hC:C<4294967296:=by rw[HC.out];exact zhE hdx (fun i=>zD (zq y) i) (fun i=>HI.out.lim _) k
    by_cases hlt2:k<q
    ·obtain⟨p2,o2,rfl,hp2,q2⟩:=(HY.out.below hb).pick (k:=k) (by rw[<- HQ.out];exact hlt2);have c2:=HBl.out.cell (x:=j+k) Ya;rw[zev]at c2;have f2:=HBl.out.free (j+k);have hdy:=zD (zq y) k;have hfo:=HI.out.lim (j+k);obtain⟨HE,hB⟩:=hd2 (zho hC hdx hdy hfo) hb;clear hb;go_wp2;go_roundw
     case rel=>
      rw[HE.out];have e1:(((C+dig (ze x) j*dig (ze y) k+f (j+k):Nat):Int)%4294967296)=((zip (dig (ze x) j) (dig (ze y)) (fun k=>f (j+k)) k:Nat):Int):=by
       unfold zip;rw[<- HC.out];generalize C+dig (ze x) j*dig (ze y) k+f (j+k)=A;omega
      have e2:(((C+dig (ze x) j*dig (ze y) k+f (j+k):Nat):Int)/4294967296)=((zfO (dig (ze x) j) (dig (ze y)) (fun k=>f (j+k)) (k+1):Nat):Int):=by
       simp only[zfO];rw[<- HC.out];generalize C+dig (ze x) j*dig (ze y) k+f (j+k)=A;omega
      refine⟨k+1,_,hlt2,Yg,by rw[e2],rfl,?_,hB.out.setCell (Za _) _⟩
      rw[e1];unfold Hid;rw[zc5];exact HBl.out.set (j+k) _
     case measure=>simp[intOf];omega
    ·obtain rfl:k=q:=Ya;have c2:=HBl.out.cell (x:=j+k) Ya;rw[zev]at c2;have f2:=HBl.out.free (j+k);have hB:=hid hb;clear hb;go_wp2;go_roundw
     case rel=>
      refine⟨j+1,zbE f (dig (ze x) j) (dig (ze y)) j k,hlt,Yg,HI.out.step HQ.out,?_,hB.out.setCell (Za _) _⟩
      rw[HC.out]
      refine(HBl.out.set (j+k) _).congr (fun z hz=>?_)
      exact zgy f _ _ j k z
     case measure=>simp[intOf];omega
  ·obtain rfl:j=p:=Ya;have hU:=HBl.out.u32s (fun i _=>HI.out.lim i) Ya;have hv:zo ((List.range (j+q)).map f)=x*y:=by
    have hd:=HI.out;rw[zby,HP.out];rw[HP.out]at hd;exact hd.done
   have HT:=zU (j+q) Yd hU hv;simp only[ZP,Zaj]at HT;have HT':=hid HT;clear HT hU hv
   go_wp2_with fail
   refine HT'.out.mono ?_
   rintro e w' ⟨⟨a6,c6,rfl,h8,h9⟩,rfl⟩;go_wp2;go_ret;exact⟨a6,c6,rfl,h8,h9,hb⟩
theorem zrY(c d:Nat)(hc:l.length<=c)(hd:m.length<=d)(h:zt w a l)(g:zt w b m)(hx:zo l=x)(hy:zo m=y)(hr:l.length+m.length<=17592186044416):
  Calls Tryz.prog 161 #[.slice a l.length c,.slice b m.length d] w (znQ w (x*y)):=by
 by_cases hxy:x=0∨y=0
 ·refine(zmO c d hc hd h g hx hy hxy).mono ?_
  rintro e w' ⟨rfl,rfl⟩;have h0:x*y=0:=by rcases hxy with rfl|rfl<;>simp
  exact⟨none,0,by rw[h0,zr];rfl,by rw[h0,zr];exact Za _,by rw[h0,zr];exact zt.nil _ _,Zg _ _⟩
 ·exact zoK c d hc hd h g hx hy Ya Ya hr
def zV(w:World)(g:Nat):Prop:=∀(o:Nat) (x:Int),w.cell? ⟨g,o,none⟩≠some (.int .u32 x)
theorem zV.below(h:zV w g)(hb:Below w.heap.size w w')(hg:g<w.heap.size):zV w' g:=fun o x e=>h o x ((hb.cell (p:=⟨g,o,none⟩) hg).symm.trans e)
theorem zbV{w:World}{g o:Nat}{v:Value}(h:w.cell? ⟨g,o,none⟩=none):(w.setCell ⟨g,o,none⟩ v).cell? ⟨g,o,none⟩=none:=by
 unfold World.cell? at *;simp only[World.setCell,Zbk,Zq]
 cases hg:w.heap[g]? with
 | none=>simp
 | some ob=>
  rw[hg]at h
  cases ob with
  | cells c e f=>simp at h⊢;omega
  | _=>simp
theorem zV.setCell{w:World}{g:Nat}(h:zV w g)(o:Nat)(v:Value)(hv:∀x,v≠.int .u32 x):zV (w.setCell ⟨g,o,none⟩ v) g:=by
 intro o' x e
 by_cases ho:o'=o
 ·subst ho
  cases hc:w.cell? ⟨g,o',none⟩with
  | none=>
   rw[zbV hc]at e;cases e
  | some y=>
   rw[ZU _ _ _ hc]at e;cases e;exact hv _ rfl
 exact Il
theorem zV.alloc(w:World)(cs:Array Value)(T:Nat)(h:cs.all (fun v=>match v with | .int .u32 _=>false|_=>true)=true):zV (w.alloc (.cells cs T)) w.heap.size:=by
 intro o x e;rw[World.cell?_alloc_at _ _ _ _ rfl]at e;rw[Array.all_eq_true']at h;have:=h _ (Zbj e);cases this
theorem zt.setCell(h:zt w a l)(hn:zV w g)(o:Nat)(v:Value):zt (w.setCell ⟨g,o,none⟩ v) a l:=by
 by_cases hl:l=[]
 ·exact I9
 obtain⟨b,off,rfl,hb,hc⟩:=h.open hl;have hp:=ZH.2 hl;have hne:b≠g:=by
  rintro rfl;exact hn _ _ (hc 0 hp)
 exact((zfH.refl g w).setCell o v).u32s hne h
structure RatV (w:World) (v:Value) (x:zaI):Prop where
 ex:∃(an ad:Option Addr) (cn cd:Nat),v=.agg #[.bool x.neg,.slice an x.num.length cn,.slice ad x.den.length cd]/\x.num.length<=cn/\x.den.length<=cd/\zt w an x.num/\zt w ad x.den
theorem RatV.below{v:Value}{x:zaI}(h:RatV w v x)(hb:Below w.heap.size w w'):RatV w' v x:=by
 obtain⟨an,ad,cn,cd,h1,h2,h3,h4,h5⟩:=h.ex;exact⟨an,ad,cn,cd,h1,h2,h3,h4.below hb,h5.below hb⟩
theorem RatV.lim{v:Value}{x:zaI}(h:RatV w v x):x.Lim:=by
 obtain⟨an,ad,cn,cd,h1,h2,h3,h4,h5⟩:=h.ex;exact⟨h4.lim,h5.lim⟩
def zey(w:World)(x:zaI)(e:Ending)(w':World):Prop:=∃v,e=.returned v/\RatV w' v x/\Below w.heap.size w w'
theorem zos(c:Nat)(h:zt w a (ze v)):
  Calls Tryz.prog 154 #[.slice a (ze v).length c] w fun e w'=>e=.returned (.bool (decide (v=1)))/\w=w':=by
 have hlen:=h.len
 by_cases h1:(ze v).length=1
 ·obtain⟨b,off,rfl,hb,hcell⟩:=h.pick (show 0<(ze v).length from Ya);have hv:v=dig (ze v) 0:=by
   obtain⟨lo,e1,e2⟩:=zeZ v Ya;rw[h1]at e1 e2;simp at e1 e2;omega
  rw[<- hv,ZW]at hcell;rw[h1];have hE:((v:Int)==1)=decide (v=1):=by rw[ZY,ZaC,Zy];omega
  have HE:=hid hE;clear h h1 hv hlen hE
  go_enter Tryz.func154,Tryz.ntmps154
  go_wp2;go_ret;exact⟨zj HE.out,rfl⟩
 ·have hne:(((ze v).length:Int)==1)=false:=bn0 Ya;have hv:decide (v=1)=false:=by
   rw[Zac];intro e;apply h1;rw[e,zc8 Ya];simp[zr]
  have HV:=hid hv;clear h h1 hv
  go_enter Tryz.func154,Tryz.ntmps154
  go_wp2;go_ret;exact Ie
theorem zs0(w:World):Calls Tryz.prog 129 #[] w fun e w'=>(∃a,e=.returned (.slice a 1 1)/\zt w' a [1])/\Below w.heap.size w w':=by
 go_enter Tryz.func129,Tryz.ntmps129
 go_wp2;go_ret
 refine⟨⟨_,rfl,⟨by intro d hd;simp at hd;omega,Yd,.inr ⟨w.heap.size,0,rfl,Yd,fun j d hj=>?_⟩⟩⟩,(Zg _ _).alloc (Za _) _⟩
 exact Io
def zsU(w:World)(v:Nat)(n:Nat)(e:Ending)(w':World):Prop:=∃a c l,e=.returned (.slice a l.length c)/\l.length<=c/\zt w' a l/\zo l=v/\l.length<=n/\Below w.heap.size w w'
theorem zgF{v:Value}{x:zaI}(h:RatV w v x)(hr:x.den.length<=17592186044416):Calls Tryz.prog 150 #[v] w (zsU w (zw x.den) (x.den.length+1)):=by
 obtain⟨an,ad,cn,cd,rfl,h2,h3,h4,h5⟩:=h.ex;have hd:=fun wv (hu:zt wv ad x.den)=>h5.len
 by_cases h0:zo x.den=0
 ·obtain⟨HB,H5,H0⟩:=hd3 (fun wv (hu:zt wv ad x.den)=>zhs cd h3 hu h0) h5 h0;clear h4 h5 h0 hd h
  go_enter Tryz.func150,Tryz.ntmps150
  go_wp2_with fail
  refine(HB.out _ (H5.out.below ((Zg _ _).alloc (Za _) _))).mono ?_
  rintro e w' ⟨rfl,rfl⟩
  go_wp2_with fail
  refine(zs0 _).mono ?_
  rintro e w' ⟨⟨a1,rfl,hU⟩,hb⟩;go_wp2;go_ret;exact⟨a1,1,[1],rfl,Yd,hU,by unfold zw;rw[Zq H0.out];rfl,Yd,((Zg _ _).alloc (Za _) _).trans (hb.mono Yd)⟩
 ·obtain⟨HB,H5,H0⟩:=hd3 (fun wv (hu:zt wv ad x.den)=>ziL cd h3 hu rfl h0 hr) h5 h0;clear h4 h5 h0 hd h
  go_enter Tryz.func150,Tryz.ntmps150
  go_wp2_with fail
  refine(HB.out _ (H5.out.below ((Zg _ _).alloc (Za _) _))).mono ?_
  rintro e w' ⟨⟨n,rfl,hn1,hn2⟩,rfl⟩;have hz:((n:Int)==0)=false:=bn0 Ya;go_wp2;go_ret;exact⟨ad,cd,x.den,rfl,h3,H5.out.below ((Zg _ _).alloc (Za _) _),by unfold zw;rw[Zh H0.out],Ya,(Zg _ _).alloc (Za _) _⟩
theorem zoh{W w1:World}(hb:Below W.heap.size W w1):(∀b o,b<W.heap.size->w1.cell? ⟨b,o,none⟩=W.cell? ⟨b,o,none⟩)/\(∀b o,b<W.heap.size->w1.frozen? ⟨b,o,none⟩=W.frozen? ⟨b,o,none⟩):=
 ⟨fun b o h=>hb.cell (p:=⟨b,o,none⟩) h,fun b o h=>hb.frozen (p:=⟨b,o,none⟩) h⟩
theorem zkV(neg:Bool)(c e:Nat)(hc:l.length<=c)(h:zt w a l)(hx:zo l=0)(hr:l.length<=1099511627776)(hd:0<d):
  Calls Tryz.prog 128 #[.bool neg,.slice a l.length c,.slice b m.length e] w (zey w (zbD neg 0 d)):=by
 have HM:=hid (fun wv (hu:zt wv a l)=>zlM c hc hu Ya);rw[hx]at HM;obtain⟨H,hq⟩:=hd2 h (zg2 neg hd);have hl:=h.len;clear h hx
 go_enter Tryz.func128,Tryz.ntmps128
 go_wp2_with fail
 refine(HM.out _ (H.out.below ((Zg _ _).alloc (Za _) _))).mono ?_
 rintro e1 w1 ⟨a1,c1,rfl,h1,h2,hb⟩;have hb':=hid hb;obtain⟨hcell,hfree⟩:=zoh hb;have hz:w.heap.size+1<=w1.heap.size:=by have:=hb.size;simpa using this
 rw[zr]at *;clear h2 hb;go_wp2;rw[hq.out]
 refine Zr (v:=.agg #[.bool false,.slice none 0 0,.slice none 0 0]) Y3 rfl ⟨_,rfl,⟨none,none,0,0,rfl,Za _,Za _,zt.nil _ _,zt.nil _ _⟩,?_⟩
 exact(((((Zg w.heap.size w).alloc (Za _) _).trans (hb'.out.mono Yd)).setCell (Za _) _).setCell (Za _) _).setCell (Za _) _
theorem zkW(neg:Bool)(hn:n≠0)(hd:d≠1)(hg:Nat.gcd n d=1):zbD neg n d=⟨neg,ze n,ze d⟩:=by
 simp[zbD,hg,hn,hd]
theorem zlL(neg:Bool)(hn:n≠0)(hg:d/Nat.gcd n d=1):zbD neg n d=⟨neg,ze (n/Nat.gcd n d),[]⟩:=by
 simp[zbD,hg,hn]
theorem zma(neg:Bool)(hn:n≠0)(hg:d/Nat.gcd n d≠1):zbD neg n d=⟨neg,ze (n/Nat.gcd n d),ze (d/Nat.gcd n d)⟩:=by
 simp[zbD,hg,hn]
theorem zm8(neg:Bool)(c e:Nat)(hc:l.length<=c)(he:m.length<=e)(h:zt w a l)(g:zt w b m)(hx:zo l=n)(hy:zo m=d)(hr:l.length<=1099511627776)(hr2:m.length<=1099511627776)(hn:n≠0)(hd:0<d):
  Calls Tryz.prog 128 #[.bool neg,.slice a l.length c,.slice b m.length e] w (zey w (zbD neg n d)):=by
 have HM:=hid (fun wv (hu:zt wv a l)=>zlM c hc hu Ya);rw[hx]at HM;have HM2:=hid (fun wv (hu:zt wv b m)=>zlM e he hu Ya);rw[hy]at HM2;obtain⟨H,G⟩:=hd2 h g;have hl:=h.len;have hl2:=g.len;have hp:=zaj.2 (Zak hn);have hz1:(((ze n).length:Int)==0)=false:=bn0 Ya;have hnl:(ze n).length<=1099511627776:=by have:=zz h.lim;rw[hx]at this;omega
 have hdl:(ze d).length<=1099511627776:=by have:=zz g.lim;rw[hy]at this;omega
 obtain⟨HN,HD⟩:=hd2 hn hd;clear h g hx hy hn hd
 go_enter Tryz.func128,Tryz.ntmps128
 have hB0:=blA w (zeP 51)
 go_wp2_with fail
 refine(HM.out _ (H.out.below hB0)).mono ?_
 rintro e1 w1 ⟨a1,c1,rfl,h1,h2,hb1⟩;obtain⟨H2,HG2⟩:=hd2 h2 (HM2.out w1 ((G.out.below hB0).below hb1));clear H G h2 HM HM2
 go_wp2_with fail
 refine HG2.out.mono ?_
 rintro e2 w2 ⟨b1,d1,rfl,h3,h4,hb2⟩;obtain⟨H4,H2'⟩:=hd2 h4 (H2.out.below hb2);have hb:=hb1.trans (hb2.mono hb1.size);have HU:=hid (zos d1 h4);clear HG2 h4 H2 hb1 hb2 hB0;have HNq:=hid (zir neg HN.out);have hN2:zV w2 w.heap.size:=(zV.alloc w _ 51 Yd).below hb Yd
 by_cases hd1:d=1
 ·subst hd1;obtain⟨hcell,hfree⟩:=zoh hb;have hz:w.heap.size+1<=w2.heap.size:=by have:=hb.size;simpa using this
  have HB:=hid hb;clear hb
  go_wp2_with fail
  refine HU.out.mono ?_
  rintro e3 w3 ⟨rfl,rfl⟩;go_wp2;rw[HNq.out];have hbe:Below w.heap.size w w2:=((Zg _ _).alloc (Za _) _).trans (HB.out.mono Yd);have hbf:=(((hbe.setCell (p:=⟨w.heap.size,0,none⟩) (Za _) (.bool neg)).setCell (p:=⟨w.heap.size,1,none⟩) (Za _) (.slice a1 (ze n).length c1)).setCell (p:=⟨w.heap.size,2,none⟩) (Za _) (.slice none 0 0))
  refine Zr (v:=.agg #[.bool neg,.slice a1 (ze n).length c1,.slice none 0 0]) Y3 rfl ⟨_,rfl,⟨a1,none,c1,0,rfl,h1,Za _,?_,zt.nil _ _⟩,hbf⟩
  exact((H2'.out.setCell hN2 _ _).setCell (hN2.setCell _ _ Yd) _ _).setCell ((hN2.setCell _ _ Yd).setCell _ _ Yd) _ _
 ·obtain⟨HG,HD1⟩:=hd2 (zs7 c1 d1 h1 h3 H2'.out H4.out (zi n) (zi d) hnl hdl) hd1;rw[Zo hd1]at HU;clear hd1
  go_wp2_with fail
  refine HU.out.mono ?_
  rintro e3 w3 ⟨rfl,rfl⟩
  go_wp2_with fail
  refine HG.out.mono ?_
  rintro e3 w3 ⟨a3,c3,rfl,h5,h6,hb3⟩;have hgp:0<Nat.gcd n d:=Nat.gcd_pos_of_pos_right n HD.out;have hbb:=hb.trans (hb3.mono hb.size);obtain⟨HNum,HDen,HU3,H6,HN3⟩:=hd5 (H2'.out.below hb3) (H4.out.below hb3) (zos c3 h6) h6 ((hN2).below hb3 (by have:=hb.size;simp at this;omega));clear HG HU h6 hb3 hb H2' H4 HNq hN2
  by_cases hg1:Nat.gcd n d=1
  ·rw[hg1]at HU3;have hq:=hid (zkW neg HN.out HD1.out hg1);rw[hg1]at h5⊢;have HUd:=hid (zos d1 HDen.out);rw[Zo HD1.out]at HUd;clear hg1
   go_wp2_with fail
   refine HU3.out.mono ?_
   rintro e3 w4 ⟨rfl,rfl⟩
   go_wp2_with fail
   refine HUd.out.mono ?_
   rintro e3 w4 ⟨rfl,rfl⟩;obtain⟨hcell,hfree⟩:=zoh hbb;have hz:w.heap.size+1<=w3.heap.size:=by have:=hbb.size;simpa using this
   have HB:=hid hbb;clear hbb;go_wp2;rw[hq.out];have hbe:Below w.heap.size w w3:=((Zg _ _).alloc (Za _) _).trans (HB.out.mono Yd);have hbf:=(((hbe.setCell (p:=⟨w.heap.size,0,none⟩) (Za _) (.bool neg)).setCell (p:=⟨w.heap.size,1,none⟩) (Za _) (.slice a1 (ze n).length c1)).setCell (p:=⟨w.heap.size,2,none⟩) (Za _) (.slice b1 (ze d).length d1))
   refine Zr (v:=.agg #[.bool neg,.slice a1 (ze n).length c1,.slice b1 (ze d).length d1]) Y3 rfl ⟨_,rfl,⟨a1,b1,c1,d1,rfl,h1,h3,?_,?_⟩,hbf⟩
   ·exact((HNum.out.setCell HN3.out _ _).setCell (HN3.out.setCell _ _ Yd) _ _).setCell ((HN3.out.setCell _ _ Yd).setCell _ _ Yd) _ _
   ·exact((HDen.out.setCell HN3.out _ _).setCell (HN3.out.setCell _ _ Yd) _ _).setCell ((HN3.out.setCell _ _ Yd).setCell _ _ Yd) _ _
  ·rw[Zo hg1]at HU3;have HDv1:=hid (zid c1 c3 h1 h5 HNum.out H6.out (zi n) (zi _) hnl hgp);clear hg1
   go_wp2_with fail
   refine HU3.out.mono ?_
   rintro e3 w4 ⟨rfl,rfl⟩
   go_wp2_with fail
   refine HDv1.out.mono ?_
   rintro e3 w4 ⟨a4,c4,a4',c4',rfl,h7,h7',h8,h8',hb4⟩;obtain⟨HDv2,H8⟩:=hd2 (zid d1 c3 h3 h5 (HDen.out.below hb4) (H6.out.below hb4) (zi d) (zi _) hdl hgp) h8;have hbc:=hbb.trans (hb4.mono hbb.size);have HN4:=hid (HN3.out.below hb4 (by have:=hbb.size;simp at this;omega));clear HU3 HDv1 h8 h8' hb4 hbb HN3 HNum HDen H6
   go_wp2_with fail
   refine HDv2.out.mono ?_
   rintro e3 w5 ⟨a5,c5,a5',c5',rfl,h9,h9',h10,h10',hb5⟩;obtain⟨H8',HUd,H10⟩:=hd3 (H8.out.below hb5) (zos c5 h10) h10;have hbd:=hbc.trans (hb5.mono hbc.size);have HN5:=hid (HN4.out.below hb5 (by have:=hbc.size;simp at this;omega));obtain⟨hcell,hfree⟩:=zoh hbd;have hz:w.heap.size+1<=w5.heap.size:=by have:=hbd.size;simpa using this
   have HB:=hid hbd;clear HDv2 h10 h10' hb5 hbc HN4 hbd H8
   by_cases hq1:d/Nat.gcd n d=1
   ·rw[Zk hq1]at HUd;have hq:=hid (zlL neg HN.out hq1);clear hq1
    go_wp2_with fail
    refine HUd.out.mono ?_
    rintro e3 w6 ⟨rfl,rfl⟩;go_wp2;rw[hq.out];have hbe:Below w.heap.size w w5:=((Zg _ _).alloc (Za _) _).trans (HB.out.mono Yd);have hbf:=(((hbe.setCell (p:=⟨w.heap.size,0,none⟩) (Za _) (.bool neg)).setCell (p:=⟨w.heap.size,1,none⟩) (Za _) (.slice a4 (ze (n/Nat.gcd n d)).length c4)).setCell (p:=⟨w.heap.size,2,none⟩) (Za _) (.slice none 0 0))
    refine Zr (v:=.agg #[.bool neg,.slice a4 (ze (n/Nat.gcd n d)).length c4,.slice none 0 0]) Y3 rfl ⟨_,rfl,⟨a4,none,c4,0,rfl,h7,Za _,?_,zt.nil _ _⟩,hbf⟩
    exact EI
   ·rw[Zo hq1]at HUd;have hq:=hid (zma neg HN.out hq1);clear hq1
    go_wp2_with fail
    refine HUd.out.mono ?_
    rintro e3 w6 ⟨rfl,rfl⟩;go_wp2;rw[hq.out];have hbe:Below w.heap.size w w5:=((Zg _ _).alloc (Za _) _).trans (HB.out.mono Yd);have hbf:=(((hbe.setCell (p:=⟨w.heap.size,0,none⟩) (Za _) (.bool neg)).setCell (p:=⟨w.heap.size,1,none⟩) (Za _) (.slice a4 (ze (n/Nat.gcd n d)).length c4)).setCell (p:=⟨w.heap.size,2,none⟩) (Za _) (.slice a5 (ze (d/Nat.gcd n d)).length c5))
    refine Zr (v:=.agg #[.bool neg,.slice a4 (ze (n/Nat.gcd n d)).length c4,.slice a5 (ze (d/Nat.gcd n d)).length c5]) Y3 rfl ⟨_,rfl,⟨a4,a5,c4,c5,rfl,h7,h9,?_,?_⟩,hbf⟩
    ·exact EI
    ·exact((H10.out.setCell HN5.out _ _).setCell (HN5.out.setCell _ _ Yd) _ _).setCell ((HN5.out.setCell _ _ Yd).setCell _ _ Yd) _ _
theorem zl5(neg:Bool)(c e:Nat)(hc:l.length<=c)(he:m.length<=e)(h:zt w a l)(g:zt w b m)(hx:zo l=n)(hy:zo m=d)(hr:l.length<=1099511627776)(hr2:m.length<=1099511627776)(hd:0<d):
  Calls Tryz.prog 128 #[.bool neg,.slice a l.length c,.slice b m.length e] w (zey w (zbD neg n d)):=by
 by_cases hn:n=0
 ·subst hn;exact zkV neg c e hc h hx hr hd
 ·exact zm8 neg c e hc he h g hx hy hr hr2 hn hd
theorem zpl{A c:Nat}(hA:A<4294967296)(hc:c<=1):IntKind.u64.wrap ((c:Int)+(A:Int))=((c+A:Nat):Int):=by
 rw[IntKind.wrap_u64];omega
theorem zkm{P:List Nat}(hp:P.length=p)(hq:Q.length<=p):
  zo ((List.range (p+1)).map fun z=>if z=p then zQ (dig P) (dig Q) p else zdD (fun _=>0) 0 (zfQ (dig P) (dig Q)) p z)=zo P+zo Q:=by
 rw[zby];show zx _ p+_*4294967296^p=_
 simp only[if_true];rw[zac (n:=p) (g:=zfQ (dig P) (dig Q)) (fun i hi=>by unfold zdD;rw[Zh Ya,Zq Ya,Nat.sub_zero]),zsi];unfold zo;rw[hp]
 congr 1
 exact zeE hq (fun i h1 _=>zcu h1)
theorem zqo(c d:Nat)(hc:l.length<=c)(hd:m.length<=d)(h:zt w a l)(g:zt w b m)(hx:zo l=x)(hy:zo m=y)(hr:l.length+m.length<=17592186044416)(hlt:(ze y).length<=(ze x).length):
  Calls Tryz.prog 178 #[.slice a l.length c,.slice b m.length d] w (znQ w (x+y)):=by
 obtain⟨HA,HB⟩:=hd2 (zU c hc h hx) (zU d hd g hy);have hle:(ze x).length<=l.length:=Yl;have hle2:(ze y).length<=m.length:=Y1;have hrr:(ze x).length+(ze y).length<=17592186044416:=Ya;obtain⟨i0,hi,hz3,hz4,hz5⟩:=info_parts Tryz.infoU32;have d1:decide ((ze x).length<(ze y).length)=false:=Zo Ya;have HSum:=hid (zkm (P:=ze x) (Q:=ze y) rfl Ya);clear h g hx hy hc hd hr hle hle2
 go_enter Tryz.func178,Tryz.ntmps178
 go_wp2_with fail
 refine HA.out.mono ?_
 rintro e w' ⟨⟨a1,c1,rfl,hc1,ha1⟩,rfl⟩
 go_wp2_with fail
 refine HB.out.mono ?_
 rintro e w' ⟨⟨b1,d1',rfl,hd1,hb1⟩,rfl⟩;obtain⟨HX,HY⟩:=hd2 ha1 hb1;have HCom:Hid (zo (ze x)+zo (ze y)=x+y):=JW;clear HA HB ha1 hb1;obtain⟨p,hp⟩:∃p,p=(ze x).length:=⟨_,rfl⟩
 obtain⟨q,hq⟩:∃q,q=(ze y).length:=⟨_,rfl⟩
 obtain⟨HP,HQ⟩:=hd2 hp hq;rw[<- hp]at hc1 hlt d1 hrr HSum⊢;rw[<- hq]at hd1 hlt d1 hrr⊢;clear hp hq;have hqp:q<=p:=Ya;clear hlt
 go_wp2_with (at_make;refine wpList_make_full _ rfl _ _ 49 rfl w.heap.size 109 i0 (.int .u32 0) 1 Tryz.underlying49 hi hz3 hz4 _ _ _ _ (p+1) rfl rfl Ya Ya ?b2 ?b3 (Za _) ?_)
 case b2=>rw[hz5];omega
 case b3=>unfold maxLen;omega
 intro w1 hown hgrow;have HB0:Hid (Blk w1 w.heap.size (p+1) (fun _=>0) 109):=TG;have hb1:Below w.heap.size w w1:=(Zg _ _).grown hgrow (Za _) (fun k h=>YG);clear hown hgrow hz3 hz4 hz5 hi d1;go_wp2
 go_loopw [6,26] (fun cv i wr=>∃k:Nat,k<=p/\i=.int .i64 (k:Int)/\cv=.int .u64 (zQ (dig (ze x)) (dig (ze y)) k:Int)/\Hid (Blk wr w.heap.size (p+1) (zdD (fun _=>0) 0 (zfQ (dig (ze x)) (dig (ze y))) k) 109)/\Below w.heap.size w wr) (fun _ i _=>p-(intOf i).toNat)
 case atStart=>exact⟨0,Zs _,rfl,rfl,Vp,hb1⟩
 case round=>
  clear HB0 hb1;obtain⟨k,hk,rfl,rfl,HBl,hb⟩:=hrel;have hcy:=zeR (n:=k) (zD (zq x)) (zD (zq y));have HBc:=hid hb
  by_cases hlt:k<p
  ·obtain⟨p1,o1,rfl,hp1,q1⟩:=(HX.out.below hb).pick (k:=k) Xh;have hdx:=zD (zq x) k;have hdy:=zD (zq y) k;have c2:=HBl.out.cell (x:=k) Ya;have f2:=HBl.out.free k;have HE:=hid (zpl hdx hcy);have HCn:Hid (zQ (dig (ze x)) (dig (ze y)) (k+1)=(zQ (dig (ze x)) (dig (ze y)) k+dig (ze x) k+dig (ze y) k)/4294967296):=rfl;have HDn:Hid (zfQ (dig (ze x)) (dig (ze y)) k=(zQ (dig (ze x)) (dig (ze y)) k+dig (ze x) k+dig (ze y) k)%4294967296):=rfl;have HBl2:=hid (fun(v:Nat) (hv:v=zfQ (dig (ze x)) (dig (ze y)) k)=>(show Blk (wr.setCell ⟨w.heap.size,k,none⟩ (.int .u32 (v:Int))) w.heap.size (p+1) (zdD (fun _=>0) 0 (zfQ (dig (ze x)) (dig (ze y))) (k+1)) 109 from by
    exact Ii))
   by_cases hkq:k<q
   ·obtain⟨p2,o2,rfl,hp2,q2⟩:=(HY.out.below hb).pick (k:=k) JI;generalize dig (ze x) k=dx at *;generalize dig (ze y) k=dy at *;generalize zQ (dig (ze x)) (dig (ze y)) k=cy at *;exact Es
   ·have hz:dig (ze y) k=0:=zcu V9;rw[hz]at HCn HDn;have d2:decide (k<q)=false:=Zo hkq;generalize dig (ze x) k=dx at *;generalize zQ (dig (ze x)) (dig (ze y)) k=cy at *;exact TU
  ·obtain rfl:k=p:=Ya;have c2:=HBl.out.cell (x:=k) Ya;have f2:=HBl.out.free k;have HBl2:=hid (fun(v:Nat)=>HBl.out.set k v);have hcb:zQ (dig (ze x)) (dig (ze y)) k<4294967296:=Ya;have hcm:((zQ (dig (ze x)) (dig (ze y)) k:Nat):Int)%4294967296=((zQ (dig (ze x)) (dig (ze y)) k:Nat):Int):=Ya;have HLt:Hid (∀z,z<k+1->(if z=k then zQ (dig (ze x)) (dig (ze y)) k else zdD (fun _=>0) 0 (zfQ (dig (ze x)) (dig (ze y))) k z)<4294967296):=E6;clear hb hqp
   go_wp2_with fail
   have hU:=(HBl2.out (zQ (dig (ze x)) (dig (ze y)) k)).u32s (fun i hi=>HLt.out i hi) Ya;have HT:=zU (k+1) Yd hU (HSum.out.trans HCom.out);simp only[ZP,Zaj]at HT
   refine HT.mono ?_
   rintro e w' ⟨⟨a6,c6,rfl,h8,h9⟩,rfl⟩;obtain⟨H8,H9,HB9⟩:=hd3 h8 h9 (show Below w.heap.size w (wr.setCell ⟨w.heap.size,k,none⟩ (.int .u32 (zQ (dig (ze x)) (dig (ze y)) k:Int)))from HBc.out.setCell (Za _) _);clear HT hU h8 h9;go_wp2;go_ret;exact⟨a6,c6,rfl,H8.out,H9.out,HB9.out⟩
theorem zqB(c d:Nat)(hc:l.length<=c)(hd:m.length<=d)(h:zt w a l)(g:zt w b m)(hx:zo l=x)(hy:zo m=y)(hr:l.length+m.length<=17592186044416)(hlt:(ze x).length<(ze y).length):
  Calls Tryz.prog 178 #[.slice a l.length c,.slice b m.length d] w (znQ w (x+y)):=by
 obtain⟨HA,HB⟩:=hd2 (zU c hc h hx) (zU d hd g hy);have hle:(ze x).length<=l.length:=Yl;have hle2:(ze y).length<=m.length:=Y1;have hrr:(ze x).length+(ze y).length<=17592186044416:=Ya;obtain⟨i0,hi,hz3,hz4,hz5⟩:=info_parts Tryz.infoU32;have d1:decide ((ze x).length<(ze y).length)=true:=Zk Ya;have HSum:=hid (zkm (P:=ze y) (Q:=ze x) rfl Ya);clear h g hx hy hc hd hr hle hle2
 go_enter Tryz.func178,Tryz.ntmps178
 go_wp2_with fail
 refine HA.out.mono ?_
 rintro e w' ⟨⟨a1,c1,rfl,hc1,ha1⟩,rfl⟩
 go_wp2_with fail
 refine HB.out.mono ?_
 rintro e w' ⟨⟨b1,d1',rfl,hd1,hb1⟩,rfl⟩;obtain⟨HX,HY⟩:=hd2 hb1 ha1;have HCom:Hid (zo (ze y)+zo (ze x)=x+y):=by unfold Hid;rw[zi,zi];exact Zbw _ _
 clear HA HB ha1 hb1;obtain⟨p,hp⟩:∃p,p=(ze y).length:=⟨_,rfl⟩
 obtain⟨q,hq⟩:∃q,q=(ze x).length:=⟨_,rfl⟩
 obtain⟨HP,HQ⟩:=hd2 hp hq;rw[<- hp]at hd1 hlt d1 hrr HSum⊢;rw[<- hq]at hc1 hlt d1 hrr⊢;clear hp hq;have hqp:q<=p:=Ya;clear hlt
 go_wp2_with (at_make;refine wpList_make_full _ rfl _ _ 49 rfl w.heap.size 109 i0 (.int .u32 0) 1 Tryz.underlying49 hi hz3 hz4 _ _ _ _ (p+1) rfl rfl Ya Ya ?b2 ?b3 (Za _) ?_)
 case b2=>rw[hz5];omega
 case b3=>unfold maxLen;omega
 intro w1 hown hgrow;have HB0:Hid (Blk w1 w.heap.size (p+1) (fun _=>0) 109):=TG;have hb1:Below w.heap.size w w1:=(Zg _ _).grown hgrow (Za _) (fun k h=>YG);clear hown hgrow hz3 hz4 hz5 hi d1;go_wp2
 go_loopw [6,26] (fun cv i wr=>∃k:Nat,k<=p/\i=.int .i64 (k:Int)/\cv=.int .u64 (zQ (dig (ze y)) (dig (ze x)) k:Int)/\Hid (Blk wr w.heap.size (p+1) (zdD (fun _=>0) 0 (zfQ (dig (ze y)) (dig (ze x))) k) 109)/\Below w.heap.size w wr) (fun _ i _=>p-(intOf i).toNat)
 case atStart=>exact⟨0,Zs _,rfl,rfl,Vp,hb1⟩
 case round=>
  clear HB0 hb1;obtain⟨k,hk,rfl,rfl,HBl,hb⟩:=hrel;have hcy:=zeR (n:=k) (zD (zq y)) (zD (zq x));have HBc:=hid hb
  by_cases hlt:k<p
  ·obtain⟨p1,o1,rfl,hp1,q1⟩:=(HX.out.below hb).pick (k:=k) Xh;have hdx:=zD (zq y) k;have hdy:=zD (zq x) k;have c2:=HBl.out.cell (x:=k) Ya;have f2:=HBl.out.free k;have HE:=hid (zpl hdx hcy);have HCn:Hid (zQ (dig (ze y)) (dig (ze x)) (k+1)=(zQ (dig (ze y)) (dig (ze x)) k+dig (ze y) k+dig (ze x) k)/4294967296):=rfl;have HDn:Hid (zfQ (dig (ze y)) (dig (ze x)) k=(zQ (dig (ze y)) (dig (ze x)) k+dig (ze y) k+dig (ze x) k)%4294967296):=rfl;have HBl2:=hid (fun(v:Nat) (hv:v=zfQ (dig (ze y)) (dig (ze x)) k)=>(show Blk (wr.setCell ⟨w.heap.size,k,none⟩ (.int .u32 (v:Int))) w.heap.size (p+1) (zdD (fun _=>0) 0 (zfQ (dig (ze y)) (dig (ze x))) (k+1)) 109 from by
    exact Ii))
   by_cases hkq:k<q
   ·obtain⟨p2,o2,rfl,hp2,q2⟩:=(HY.out.below hb).pick (k:=k) JI;generalize dig (ze y) k=dx at *;generalize dig (ze x) k=dy at *;generalize zQ (dig (ze y)) (dig (ze x)) k=cy at *;exact Es
   ·have hz:dig (ze x) k=0:=zcu V9;rw[hz]at HCn HDn;have d2:decide (k<q)=false:=Zo hkq;generalize dig (ze y) k=dx at *;generalize zQ (dig (ze y)) (dig (ze x)) k=cy at *;exact TU
  ·obtain rfl:k=p:=Ya;have c2:=HBl.out.cell (x:=k) Ya;have f2:=HBl.out.free k;have HBl2:=hid (fun(v:Nat)=>HBl.out.set k v);have hcb:zQ (dig (ze y)) (dig (ze x)) k<4294967296:=Ya;have hcm:((zQ (dig (ze y)) (dig (ze x)) k:Nat):Int)%4294967296=((zQ (dig (ze y)) (dig (ze x)) k:Nat):Int):=Ya;have HLt:Hid (∀z,z<k+1->(if z=k then zQ (dig (ze y)) (dig (ze x)) k else zdD (fun _=>0) 0 (zfQ (dig (ze y)) (dig (ze x))) k z)<4294967296):=E6;clear hb hqp
   go_wp2_with fail
   have hU:=(HBl2.out (zQ (dig (ze y)) (dig (ze x)) k)).u32s (fun i hi=>HLt.out i hi) Ya;have HT:=zU (k+1) Yd hU (HSum.out.trans HCom.out);simp only[ZP,Zaj]at HT
   refine HT.mono ?_
   rintro e w' ⟨⟨a6,c6,rfl,h8,h9⟩,rfl⟩;obtain⟨H8,H9,HB9⟩:=hd3 h8 h9 (show Below w.heap.size w (wr.setCell ⟨w.heap.size,k,none⟩ (.int .u32 (zQ (dig (ze y)) (dig (ze x)) k:Int)))from HBc.out.setCell (Za _) _);clear HT hU h8 h9;go_wp2;go_ret;exact⟨a6,c6,rfl,H8.out,H9.out,HB9.out⟩
theorem ztl(c d:Nat)(hc:l.length<=c)(hd:m.length<=d)(h:zt w a l)(g:zt w b m)(hx:zo l=x)(hy:zo m=y)(hr:l.length+m.length<=17592186044416):
  Calls Tryz.prog 178 #[.slice a l.length c,.slice b m.length d] w (znQ w (x+y)):=by
 by_cases hlt:(ze x).length<(ze y).length
 ·exact zqB c d hc hd h g hx hy hr hlt
 ·exact zqo c d hc hd h g hx hy hr Ya
theorem zqu{a b:Nat}(ha:a<4294967296)(hp:p<=1)(hb:b<4294967296):
  IntKind.u64.wrap (IntKind.u64.wrap ((a:Int)-(p:Int))-(b:Int))%4294967296=((a+4294967296*(if a<p+b then 1 else 0)-(p+b):Nat):Int):=EE
theorem zn6{a b:Nat}(ha:a<4294967296)(hp:p<=1)(hb:b<4294967296):
  IntKind.u64.wrap (IntKind.u64.wrap ((a:Int)-(p:Int))-(b:Int))/9223372036854775808=((if a<p+b then 1 else 0:Nat):Int):=EE
theorem zoX{a:Nat}(ha:a<4294967296)(hp:p<=1):IntKind.u64.wrap ((a:Int)-(p:Int))%4294967296=((a+4294967296*(if a<p+0 then 1 else 0)-(p+0):Nat):Int):=by
 rw[IntKind.wrap_u64]
 split<;>omega
theorem znA{a:Nat}(ha:a<4294967296)(hp:p<=1):IntKind.u64.wrap ((a:Int)-(p:Int))/9223372036854775808=((if a<p+0 then 1 else 0:Nat):Int):=by
 rw[IntKind.wrap_u64]
 split<;>omega
theorem zoi{P:List Nat}(hP:Lim P)(hQ:Lim Q)(hp:P.length=p)(hq:Q.length<=p)(h:zo Q<=zo P):
  zo ((List.range p).map fun z=>zdD (fun _=>0) 0 (zgG (dig P) (dig Q)) p z)=zo P-zo Q:=by
 have e2:zx (dig Q) p=zo Q:=by
  unfold zo;exact zeE hq (fun i h1 _=>zcu h1)
 have e1:zx (dig P) p=zo P:=by unfold zo;rw[hp]
 rw[zby,zac (n:=p) (g:=zgG (dig P) (dig Q)) (fun i hi=>by unfold zdD;rw[Zq Ya,Nat.sub_zero])];rw[(zka (zD hP) (zD hQ) (by rw[e1,e2];exact h)).1,e1,e2]
def zsz(w:World)(v:Nat)(e:Ending)(w':World):Prop:=∃a c,e=.returned (.tuple #[.slice a (ze v).length c,.int .i64 0])/\(ze v).length<=c/\zt w' a (ze v)/\Below w.heap.size w w'
theorem zs2(c d:Nat)(hc:l.length<=c)(hd:m.length<=d)(h:zt w a l)(g:zt w b m)(hx:zo l=x)(hy:zo m=y)(hr:l.length+m.length<=17592186044416)(hxy:y<=x):
  Calls Tryz.prog 179 #[.slice a l.length c,.slice b m.length d] w (zsz w (x-y)):=by
 obtain⟨HA,HB⟩:=hd2 (zU c hc h hx) (zU d hd g hy);have hle:(ze x).length<=l.length:=Yl;have hle2:(ze y).length<=m.length:=Y1;have hlt:(ze y).length<=(ze x).length:=zaD hxy;have hrr:(ze x).length+(ze y).length<=17592186044416:=Ya;obtain⟨i0,hi,hz3,hz4,hz5⟩:=info_parts Tryz.infoU32;have HDf:=hid (zoi (P:=ze x) (Q:=ze y) (zq x) (zq y) rfl hlt (by rw[zi,zi];exact hxy));have hcmp:decide (zdy x y<0)=false:=by
  apply Zo
  unfold zdy;rw[Zh Ya]
  split<;>omega
 clear h g hx hy hc hd hr hle hle2 hxy
 go_enter Tryz.func179,Tryz.ntmps179
 go_wp2_with fail
 refine HA.out.mono ?_
 rintro e w' ⟨⟨a1,c1,rfl,hc1,ha1⟩,rfl⟩
 go_wp2_with fail
 refine HB.out.mono ?_
 rintro e w' ⟨⟨b1,d1',rfl,hd1,hb1⟩,rfl⟩;obtain⟨HX,HY,HCm⟩:=hd3 ha1 hb1 (zpR c1 d1' hc1 hd1 ha1 hb1 (zi x) (zi y));have HCom:Hid (zo (ze x)-zo (ze y)=x-y):=JW;clear HA HB ha1 hb1
 go_wp2_with fail
 refine HCm.out.mono ?_
 rintro e wq ⟨rfl,n0,hw0⟩;obtain⟨HX0,HY0,HB0⟩:=hd3 (show zt wq a1 (ze x)from by subst hw0;exact HX.out.below (Below.drewN_refl _ _)) (show zt wq b1 (ze y)from by subst hw0;exact HY.out.below (Below.drewN_refl _ _)) (show Below w.heap.size w wq from by subst hw0;exact Below.drewN_refl _ _);clear HX HY HCm hw0;obtain⟨p,hp⟩:∃p,p=(ze x).length:=⟨_,rfl⟩
 obtain⟨q,hq⟩:∃q,q=(ze y).length:=⟨_,rfl⟩
 obtain⟨HP,HQ⟩:=hd2 hp hq;rw[<- hp]at hc1 hlt hrr HDf⊢;rw[<- hq]at hd1 hlt hrr⊢;clear hp hq;have hqp:q<=p:=Ya;clear hlt
 go_wp2_with (at_make;refine wpList_make_full _ rfl _ _ 49 rfl wq.heap.size 109 i0 (.int .u32 0) 1 Tryz.underlying49 hi hz3 hz4 _ _ _ _ p rfl rfl Ya Ya ?b2 ?b3 (Za _) ?_)
 case b2=>rw[hz5];omega
 case b3=>unfold maxLen;omega
 intro w1 hown hgrow;have HBk:Hid (Blk w1 wq.heap.size p (fun _=>0) 109):=by
  refine Blk.of_own (base:=wq.heap.size) ?_
  have e:(madeCells #[Value.int IntKind.u32 0] p).toList=(List.range p).map fun _=>Value.int .u32 ((0:Nat):Int):=TP
  rw[<- e];exact hown
 have hb1:Below wq.heap.size wq w1:=(Zg _ _).grown hgrow (Za _) (fun k h=>YG);obtain⟨G,hG⟩:∃G,G=wq.heap.size:=⟨_,rfl⟩
 obtain⟨HGw,HX1⟩:=hd2 (show w.heap.size<=G from by rw[hG];exact HB0.out.size) (HX0.out);rw[<- hG]at HBk hb1⊢;have hBx:Hid (∀wr,Below G wq wr->zt wr a1 (ze x)/\zt wr b1 (ze y)/\Below w.heap.size w wr):=fun wr hb=>by
  rw[hG]at hb;exact⟨HX0.out.below hb,HY0.out.below hb,HB0.out.trans (hb.mono HB0.out.size)⟩
 clear hown hgrow hz3 hz4 hz5 hi hcmp HX0 HY0 HB0 HX1 hG;go_wp2
 go_loopw [7,8,9,10,24] (fun bv i0' d0' x0' i wr=>∃k:Nat,k<=p/\i=.int .i64 (k:Int)/\bv=.int .u64 (zdK (dig (ze x)) (dig (ze y)) k:Int)/\Hid (Blk wr G p (zdD (fun _=>0) 0 (zgG (dig (ze x)) (dig (ze y))) k) 109)/\Below G wq wr) (fun _ _ _ _ i _=>p-(intOf i).toNat)
 case atStart=>exact⟨0,Zs _,rfl,rfl,by unfold Hid;rw[zdR];exact HBk,hb1⟩
 case round=>
  clear HBk hb1;obtain⟨k,hk,rfl,rfl,HBl,hb⟩:=hrel;have hcy:=zfa (dig (ze x)) (dig (ze y)) k;have HBc:=hid hb;obtain⟨hxr,hyr,hbr⟩:=hBx.out _ hb;obtain⟨HXr,HYr,HBr⟩:=hd3 hxr hyr hbr;clear hxr hyr hbr
  by_cases hlt:k<p
  ·obtain⟨p1,o1,rfl,hp1,q1⟩:=HXr.out.pick (k:=k) Xh;have hdx:=zD (zq x) k;have hdy:=zD (zq y) k;have c2:=HBl.out.cell (x:=k) Ya;have f2:=HBl.out.free k;have HCn:Hid (zdK (dig (ze x)) (dig (ze y)) (k+1)=(if dig (ze x) k<zdK (dig (ze x)) (dig (ze y)) k+dig (ze y) k then 1 else 0)):=rfl;have HDn:Hid (zgG (dig (ze x)) (dig (ze y)) k=dig (ze x) k+4294967296*(if dig (ze x) k<zdK (dig (ze x)) (dig (ze y)) k+dig (ze y) k then 1 else 0)-(zdK (dig (ze x)) (dig (ze y)) k+dig (ze y) k)):=rfl;have HBl2:=hid (fun(v:Nat) (hv:v=zgG (dig (ze x)) (dig (ze y)) k)=>(show Blk (wr.setCell ⟨G,k,none⟩ (.int .u32 (v:Int))) G p (zdD (fun _=>0) 0 (zgG (dig (ze x)) (dig (ze y))) (k+1)) 109 from by
    exact Ii))
   by_cases hkq:k<q
   ·obtain⟨p2,o2,rfl,hp2,q2⟩:=HYr.out.pick (k:=k) JI;generalize zgG (dig (ze x)) (dig (ze y)) k=dg at *;generalize dig (ze x) k=dx at *;generalize dig (ze y) k=dy at *;generalize zdK (dig (ze x)) (dig (ze y)) k=cy at *;obtain⟨HL,HH⟩:=hd2 (zqu hdx hcy hdy) (zn6 hdx hcy hdy);clear hb;exact Et
   ·have hz:dig (ze y) k=0:=zcu V9;rw[hz]at HCn HDn;have d2:decide (k<q)=false:=Zo hkq;generalize zgG (dig (ze x)) (dig (ze y)) k=dg at *;generalize dig (ze x) k=dx at *;generalize zdK (dig (ze x)) (dig (ze y)) k=cy at *;obtain⟨HL,HH⟩:=hd2 (zoX hdx hcy) (znA hdx hcy);clear hb hz hdy;exact Et
  ·obtain rfl:p=k:=Ya;have hU:=HBl.out.u32s (fun i hi=>by
    unfold zdD
    split
    ·exact zhV (zD (zq x) _) (zD (zq y) _)
    ·exact(by decide:(0:Nat)<4294967296)) Ya
   have HT:=zU p Yd hU (HDf.out.trans HCom.out);simp only[ZP,Zaj]at HT;have HT2:=hid HT;clear hb hqp hU HT
   go_wp2_with fail
   refine HT2.out.mono ?_
   rintro e w' ⟨⟨a6,c6,rfl,h8,h9⟩,rfl⟩;obtain⟨H8,H9⟩:=hd2 h8 h9;clear HT2 h8 h9;go_wp2
   go_ret2
   exact⟨a6,c6,rfl,H8.out,H9.out,HBr.out⟩
