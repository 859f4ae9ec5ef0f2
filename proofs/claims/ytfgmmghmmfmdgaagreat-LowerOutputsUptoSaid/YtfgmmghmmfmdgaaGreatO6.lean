/-
  Contracts: NatI, NatJ, NatK, RatA, RatB, NatL, NatN.
-/
import Derived.Test.YtfgmmghmmfmdgaaGreatO5
import Derived.Test.YtfgmmghmmfmdgaaGreatShelf
import Derived.Lib.ItoaNum
import Derived.Test.YtfgmmghmmfmdgaaGreatO0
set_option linter.all false
set_option maxRecDepth 100000
set_option maxHeartbeats 3200000
namespace Go.Proofs.YtfgmmghmmfmdgaaGreat
open Go.RowKit
open Go.Lib (hid)
variable {P:Prop} {g n T i y x v B q d p:Nat} {w w':World} {m l Q:List Nat} {a b:Option Addr}
theorem TP(h:P:=by
 refine Blk.of_own (base:=w.heap.size) ?_
 have e:(madeCells #[Value.int IntKind.u32 0] (p+1)).toList=(List.range (p+1)).map fun _=>Value.int .u32 ((0:Nat):Int):=by
  simp[Zbp,List.map_const']
 rw[<- e];exact hown
):P:=h
theorem Ef(h:P:=by
 clear hb hz hdy;go_wp2;go_roundw
 case rel=>exact⟨k+1,hlt,Yg,XQ,HBl2.out _ (by rw[HDn.out,ZU];rfl),HBc.out.setCell (Za _) _⟩
 case measure=>simp[intOf];omega
):P:=h
theorem En(h:P:=by refine⟨B,A%B,b1,a3,d1,c3,rfl,rfl,rfl,hd1,h4,hrB,Zi (zm4 A hB0) hrB,HB2,H6,?_,hb2⟩;unfold Hid;rw[<- HG.out,Nat.gcd_comm A B,Nat.gcd_rec B A,Nat.gcd_comm]):P:=h
theorem Ex(h:P:=by
 clear hb;go_wp2;go_roundw
 case rel=>exact⟨k+1,hlt,Yg,XQ,HBl2.out _ VZ,HBc.out.setCell (Za _) _⟩
 case measure=>simp[intOf];omega
):P:=h
theorem Ey(h:P:=by
 go_wp2;go_roundw
 case rel=>exact⟨k+1,hlt,Yg,by rw[HH.out,HCn.out],JC,HBc.out.setCell (Za _) _⟩
 case measure=>simp[intOf];omega
):P:=h
theorem EF(h:P:=by
 intro z hz
 split
 ·exact hcb
 ·unfold zdU;split
  ·exact ziz _ _ _
  ·show(0:Nat)<4294967296;omega
):P:=h
theorem EU(h:P:=by exact((H8'.out.setCell HN5.out _ _).setCell (HN5.out.setCell _ _ Yc) _ _).setCell ((HN5.out.setCell _ _ Yc).setCell _ _ Yc) _ _):P:=h
theorem Iy(h:P:=by rw[zdl,ZR,<- hv];exact HBl.out.set k v):P:=h
theorem I0(h:P:=by
 ·rw[ZA _ _ _ _ (by intro h;cases h;exact ho rfl)]at e;exact h _ _ e
):P:=h
theorem I6(h:P:=by
 rw[World.cell?_alloc_at _ _ _ _ rfl]
 match j,hj with
 | 0,hj=>simp at hj;subst hj;simp
):P:=h
theorem IM(h:P:=by rw[hl];exact zw.nil _ _):P:=h
theorem Y5(h:P:=by simp[results,Tryz.results128,go_sem,hz,hcell]):P:=h
theorem XQ(h:P:=by rw[HCn.out];go_num):P:=h
theorem zf8.blk{g':Nat}{f:Nat->Nat}(h:zf8 g w w')(hne:g'≠g)(hb:Blk w g' n f T):Blk w' g' n f T:=by
 unfold Blk at *;exact(h.block g' hne).trans hb
theorem Blk.part{N:Nat}{f:Nat->Nat}(h:Blk w g N f T)(hf:∀i,f i<4294967296){m:Nat}(hi:i+m<=N)(hm:m<=9223372036854775807):zw w (some ⟨g,i,none⟩) ((List.range m).map fun j=>f (i+j)):=by
 refine⟨?_,by simpa using hm,.inr ⟨g,i,rfl,h.lt,fun j d hj=>?_⟩⟩
 ·intro d hd;simp only[ZP,Z5]at hd;obtain⟨j,_,rfl⟩:=hd;exact hf _
 ·rw[ZN]at hj
  rcases ZaC j m with hlt|hge
  ·rw[Zam hlt]at hj;simp at hj;subst hj;exact h.cell Ya
  ·rw[ZaW (by simpa using hge)]at hj;cases hj
theorem zkL{s V W k:Nat}(hn:2<=n)(hN:zmE y n s V)(hW:W<V*4294967296^(k+1)){u:Nat->Nat}(hu:∀i,u i<4294967296)(hv:zA u (n+1)=W/4294967296^k):zdD u (dig (za V)) n:=by
 have hl:=hN.len Ya;have e:zA (dig (za V)) n=V:=by have:=zg V;unfold zo at this;rwa [hl]at this
 refine⟨hn,hu,fun i=>zJ (zv V) i,hN.digit Ya,?_⟩
 rw[hv,e];exact(zik hN.pos hW).1
def zs0(w:World)(x y:Nat)(e:Ending)(w':World):Prop:=∃a1 c1 a2 c2,e=.returned (.tuple #[.slice a1 (za (x/y)).length c1,.slice a2 (za (x%y)).length c2,.int .i64 0])/\
 (za (x/y)).length<=c1/\(za (x%y)).length<=c2/\zw w' a1 (za (x/y))/\zw w' a2 (za (x%y))/\Below w.heap.size w w'
theorem zjP(c d:Nat)(hc:l.length<=c)(hd:m.length<=d)(h:zw w a l)(g:zw w b m)(hx:zo l=x)(hy:zo m=y)(hr:l.length<=17592186044416)(hxy:x<y):
  Calls Tryz.prog 156 #[.slice a l.length c,.slice b m.length d] w (zs0 w x y):=by
 obtain⟨HA,HB⟩:=hd2 (zY c hc h hx) (zY d hd g hy);have hll:=h.len;have hlm:=g.len;have hle:(za x).length<=l.length:=Ym;have hpos:0<(za y).length:=ZJ.2 (fun e=>Ko);have hy0:(((za y).length:Int)==0)=false:=bn0 Ya;have HX:=hid hxy;clear h g hx hy hc hd hxy
 go_enter Tryz.func156,Tryz.ntmps156
 go_wp2_with fail
 refine HA.out.mono ?_
 rintro e w' ⟨⟨a1,c1,rfl,hc1,ha1⟩,rfl⟩
 go_wp2_with fail
 refine HB.out.mono ?_
 rintro e w' ⟨⟨b1,d1,rfl,hd1,hb1⟩,rfl⟩;clear HA HB;have HC:=hid (zrH c1 d1 hc1 hd1 ha1 hb1 (zg x) (zg y));rw[zfG HX.out]at HC;have HM:=hid (fun n=>zlO c1 hc1 (ha1.drewN n) Ya);rw[zg x]at HM;clear ha1 hb1
 go_wp2_with fail
 refine HC.out.mono ?_
 rintro e w' ⟨rfl,n,rfl⟩
 go_wp2_with fail
 refine(HM.out n).mono ?_
 rintro e w' ⟨a2,c2,rfl,hc2,ha2,hb2⟩;go_wp2
 go_ret3
 have e1:x/y=0:=ZaM HX.out;have e2:x%y=x:=ZaL HX.out;exact⟨none,0,a2,c2,by rw[e1,e2,zy];rfl,by rw[e1,zy];exact Za _,by rw[e2];exact hc2,by rw[e1,zy];exact zw.nil _ _,by rw[e2];exact ha2,
  (Below.drewN_refl w n).trans hb2⟩
theorem zg0(h:y<=x):0<=zdR x y/\zdR x y<=1:=by unfold zdR;split<;>(try split)<;>omega
theorem zj6(c d:Nat)(hc:l.length<=c)(hd:m.length<=d)(h:zw w a l)(g:zw w b m)(hx:zo l=x)(hy:zo m=y)(hr:l.length<=17592186044416)(hxy:y<=x)(h1:(za y).length=1):
  Calls Tryz.prog 156 #[.slice a l.length c,.slice b m.length d] w (zs0 w x y):=by
 obtain⟨HA,HB⟩:=hd2 (zY c hc h hx) (zY d hd g hy);have hll:=h.len;have hlm:=g.len;have hle:(za x).length<=l.length:=Ym;have hyd:y=dig (za y) 0:=by
  obtain⟨lo,e1,e2⟩:=zeX y Ya;rw[h1]at e1 e2;simp at e1 e2;omega
 have hyl:y<4294967296:=by rw[hyd];exact zJ (zv y) 0
 have hy0:0<y:=by
  refine Zaz fun e=>?_
  rw[e,zy]at h1;cases h1
 obtain⟨HX,HD⟩:=hd2 hxy hyd;obtain⟨hcv1,hcv2⟩:=zg0 hxy;clear h g hx hy hc hd hxy hyd
 go_enter Tryz.func156,Tryz.ntmps156
 go_wp2_with fail
 refine HA.out.mono ?_
 rintro e w' ⟨⟨a1,c1,rfl,hc1,ha1⟩,rfl⟩
 go_wp2_with fail
 refine HB.out.mono ?_
 rintro e w' ⟨⟨b1,d1,rfl,hd1,hb1⟩,rfl⟩;clear HA HB;have HC:=hid (zrH c1 d1 hc1 hd1 ha1 hb1 (zg x) (zg y));generalize zdR x y=cv at *;have HM:=hid (fun n=>zsQ c1 y hy0 hyl (ha1.drewN n) Ya);rw[zg x]at HM;obtain⟨bb,bo,rfl,hbb,hcell⟩:=hb1.pick (show 0<(za y).length from Ya);rw[<- HD.out,ZU]at hcell;clear ha1 hb1;have H1:=hid h1;rw[h1]at HC hd1⊢;clear h1
 go_wp2_with fail
 refine HC.out.mono ?_
 rintro e w' ⟨rfl,n,rfl⟩
 go_wp2_with fail
 refine(HM.out n).mono ?_
 rintro e w' ⟨a2,c2,a3,c3,rfl,h2,h3,h4,h5,h6⟩;go_wp2
 go_ret3
 exact⟨a2,c2,a3,c3,rfl,h2,h3,h4,h5,(Below.drewN_refl w n).trans h6⟩
theorem zhI(hn:0<(za y).length):zmE y (za y).length (32-Lib.bitLen (dig (za y) ((za y).length-1))) (y*2^(32-Lib.bitLen (dig (za y) ((za y).length-1))))/\Lib.bitLen (dig (za y) ((za y).length-1))<=32:=by
 have hd:=zJ (zv y) ((za y).length-1);have h0:dig (za y) ((za y).length-1)≠0:=(zb2 y).resolve_left (ZJ.1 hn);obtain⟨h1,h2,h3⟩:=Lib.bitLenAux_bounds 64 _ (Nat.lt_trans hd Yd) h0;exact zrE hn h1 h2 h3
theorem zjj{w:World}{a b:Option Addr}{l m:List Nat}{x y:Nat}(c d:Nat)(hc:l.length<=c)(hd:m.length<=d)(h:zw w a l)(g:zw w b m)(hx:zo l=x)(hy:zo m=y)(hr:l.length<=1099511627776)(hxy:y<=x)(h1:2<=(za y).length):
  Calls Tryz.prog 156 #[.slice a l.length c,.slice b m.length d] w (zs0 w x y):=by
 obtain⟨HA,HB⟩:=hd2 (zY c hc h hx) (zY d hd g hy);have hll:=h.len;have hlm:=g.len;have hle:(za x).length<=l.length:=Ym;have hnx:(za y).length<=(za x).length:=zaC hxy;obtain⟨hN,hL⟩:=zhI (y:=y) Ya;have HX:=hid hxy;obtain⟨hcv1,hcv2⟩:=zg0 hxy;have hlow:=zoF (y:=y) Ya;have hz1:(((za y).length:Int)==0)=false:=bn0 Ya;have hz2:(((za y).length:Int)==1)=false:=bn0 Ya;obtain⟨i0,hi,hz3,hz4,hz5⟩:=info_parts Tryz.infoU32;clear h g hx hy hc hd hxy
 go_enter Tryz.func156,Tryz.ntmps156
 go_wp2_with fail
 refine HA.out.mono ?_
 rintro e w' ⟨⟨a1,c1,rfl,hc1,ha1⟩,rfl⟩
 go_wp2_with fail
 refine HB.out.mono ?_
 rintro e w' ⟨⟨b1,d1,rfl,hd1,hb1⟩,rfl⟩;clear HA HB;have HC:=hid (zrH c1 d1 hc1 hd1 ha1 hb1 (zg x) (zg y));generalize zdR x y=cv at *;obtain⟨bb,bo,rfl,hbb,hcell⟩:=hb1.pick (show(za y).length-1<(za y).length from Ya);obtain⟨HA1,HB1,HLow⟩:=hd3 ha1 hb1 hlow;clear ha1 hb1 hlow;obtain⟨nx,hnx'⟩:∃nx,nx=(za x).length:=⟨_,rfl⟩
 obtain⟨n,hn'⟩:∃n,n=(za y).length:=⟨_,rfl⟩
 obtain⟨tp,htp⟩:∃tp,tp=dig (za y) ((za y).length-1):=⟨_,rfl⟩
 have htl:tp<4294967296:=by rw[htp];exact zJ (zv y) _
 rw[<- htp]at hN hL hcell;obtain⟨s,hs⟩:∃s,s=32-Lib.bitLen tp:=⟨_,rfl⟩
 have hsI:Hid (32-(Lib.bitLen tp:Int)=(s:Int)):=XU;rw[<- hs]at hN;have HN:=hid hN;have hs32:=hN.s32;have HLz:=hid (fun wv=>Tryz.bits_LeadingZeros32 (tp:Int) wv Ya Ya);rw[show((tp:Int)).toNat=tp from Yc,hsI.out]at HLz;obtain⟨HNX,HNY⟩:=hd2 hnx' hn';clear hN htp hs hsI;rw[<- hnx']at hnx hc1 hle HC;rw[<- hn']at HC;rw[<- hn']at hnx h1 hz1 hz2 hd1 hcell HN HLow;rw[<- hnx',<- hn'];clear hnx' hn'
 go_wp2_with fail
 refine HC.out.mono ?_
 rintro e w' ⟨rfl,n1,rfl⟩
 go_wp2_with fail
 refine(HLz.out _).mono ?_
 rintro e w' ⟨rfl,rfl⟩;have hbw:=Below.drewN_refl w n1;obtain⟨HA2,HB2⟩:=hd2 (HA1.out.drewN n1) (HB1.out.drewN n1);clear HC HA1 HB1 HLz hcell;generalize w.drewN n1=w1 at *;have HLa:=hid (zr0 c1 s hs32 HA2.out (by rw[<- HNX.out];omega));rw[zg,<- HNX.out]at HLa
 go_wp2_with fail
 refine HLa.out.mono ?_
 rintro e w2 ⟨rfl,hBu,hbu⟩;obtain⟨HBu,HB3⟩:=hd2 hBu (HB2.out.below hbu);have hgu:=hBu.lt;clear HLa HA2 HB2 hBu;have hbase:=hbw.size;generalize hg1:w1.heap.size=gu at *;have HLb:=hid (zr0 d1 s hs32 HB3.out (by rw[<- HNY.out];omega));rw[zg,<- HNY.out,<- HN.out.eq]at HLb
 go_wp2_with fail
 refine HLb.out.mono ?_
 rintro e w3 ⟨rfl,hBv,hbv⟩;have hgv:=hBv.lt;have hUv:=hBv.u32s (fun i _=>zd1 _ _) Ya;have hVl:=HN.out.len Ya;have hVv:zo ((List.range (n+1)).map (zaw (y*2^s)))=y*2^s:=by
  rw[zbL,zeE,ZaL];exact Zb HN.out.lt (Zt Ya Ya)
 have hT:=zlh (n+1) Yc hUv;have hneV:za (y*2^s)≠[]:=fun e=>by rw[e]at hVl;simp at hVl;omega
 rw[hVv,hVl]at hT;simp only[Zv,Zav]at hT;obtain⟨HT,HNe,HVl,HBu3⟩:=hd4 hT hneV hVl (HBu.out.below hbv);clear HLb HB3 HBu hUv hVv hT hneV hVl hBv;generalize hg2:w2.heap.size=gv at *
 go_wp2_with fail
 refine HT.out.mono ?_
 rintro e w' ⟨⟨a2,c2,rfl,hc2,hV2,ha2⟩,rfl⟩;have ha3:=ha2.resolve_right HNe.out;subst ha3;have HV:=hid hV2;have hb3:Below w.heap.size w w3:=(hbw.trans (hbu.mono hbase)).trans (hbv.mono Ya);have hs3:=hb3.size;have hgu3:gu<w3.heap.size:=by have:=hbv.size;omega
 have hvu:gv≠gu:=Ya;clear HT hV2 ha2 hbw hbu hbv
 go_wp2_with (at_make;refine wpList_make_full _ rfl _ _ 49 rfl w3.heap.size 109 i0 (.int .u32 0) 1 Tryz.underlying49 hi hz3 hz4 _ _ _ _ (nx-n+1) rfl rfl Ya Ya ?b2 ?b3 (Za _) ?_)
 case b2=>rw[hz5];omega
 case b3=>unfold maxLen;omega
 intro w4 hown hgrow;have HB0:Hid (Blk w4 w3.heap.size (nx-n+1) (fun _=>0) 109):=by
  refine Blk.of_own (base:=w3.heap.size) ?_
  have e:(madeCells #[Value.int IntKind.u32 0] (nx-n+1)).toList=(List.range (nx-n+1)).map fun _=>Value.int .u32 ((0:Nat):Int):=Ec
  rw[<- e];exact hown
 have hb4:Below w3.heap.size w3 w4:=(Ze _ _).grown hgrow (Za _) (fun k h=>YP);have HB1:Hid (Blk w4 gu (nx+1) (zaw (x*2^s)) 109):=HBu3.out.below hb4;have HV1:Hid (zw w4 (some ⟨gv,0,none⟩) (za (y*2^s))):=HV.out.below hb4;have hb5:Below w.heap.size w w4:=hb3.trans (hb4.mono hs3);have HI0:Hid (zdK (x*2^s) (y*2^s) (nx-n+1) (nx-n+1) (x*2^s) (fun _=>0)):=by
  refine zdK.start ?_
  rw[HNX.out];exact HN.out.start Ya HLow.out (by rw[<- HNX.out];exact hnx)
 clear hown hgrow HBu3 HV hb3 hb4 hz3 hz4 hz5 hi HLow hz1 hz2 hcv1 hcv2;generalize hg3:w3.heap.size=go at *;generalize hVe:y*2^s=V at *;have HVe:=hid hVe;clear hVe hg1 hg2 hg3;go_wp2
 go_loopw [13] (fun i wr=>∃k W:Nat,∃I:Int,∃o:Nat->Nat,k<=nx-n+1/\I+1=(k:Int)/\i=.int .i64 I/\Hid (zdK (x*2^s) V (nx-n+1) k W o)/\Hid (Blk wr gu (nx+1) (zaw W) 109)/\
  Hid (Blk wr go (nx-n+1) o 109)/\Hid (zw wr (some ⟨gv,0,none⟩) (za V))/\Below w.heap.size w wr) (fun i _=>(intOf i+1).toNat)
 case atStart=>exact⟨nx-n+1,x*2^s,_,_,Za _,Ya,rfl,HI0,HB1,HB0,HV1,hb5⟩
 case round=>
  clear HB0 HB1 HV1 HI0 hb5;obtain⟨k,W,I,o,hk,hI,rfl,HI,HBu,HBo,HV,hb⟩:=hrel
  cases k with
  | zero=>
   obtain rfl:I= -1:=Ya;obtain⟨hq,hw⟩:=HI.out.done;have hsc:=zmo x y s;rw[HVe.out]at hsc;have hWl:W<4294967296^(nx+1):=by
    have:W<V:=by rw[hw];exact Z7 _ HN.out.pos
    exact Nat.lt_trans this (Zb HN.out.lt (Zt Ya Ya))
   have hUu:=HBu.out.u32s (fun i _=>zd1 W i) Ya;have hUo:=HBo.out.u32s (fun i _=>HI.out.lim i) Ya;have hvu2:zo ((List.range (nx+1)).map (zaw W))=W:=by rw[zbL,zeE,ZaL hWl]
   have hvo:zo ((List.range (nx-n+1)).map o)=x/y:=by rw[zbL,hq,hsc.1]
   have hwr:W/2^s=x%y:=by rw[hw,hsc.2]
   have HS:=zuf (nx+1) s Ya Yc hUu hvu2 Yi;rw[hwr]at HS;have HT:=fun(wv:World) (hh:zw wv (some ⟨go,0,none⟩) ((List.range (nx-n+1)).map o))=>zY (nx-n+1) Yc hh hvo
   simp only[Zv,Zav]at HS HT;obtain⟨HS',HT',HUo⟩:=hd3 HS HT hUo;clear HS HT hUu hUo hvu2 hvo hwr hq hw hsc hWl
   go_wp2_with fail
   refine HS'.out.mono ?_
   rintro e w' ⟨a5,c5,rfl,h5,h6,h7⟩;obtain⟨H6,HT2⟩:=hd2 h6 (HT'.out w' (HUo.out.below h7));clear h6
   go_wp2_with fail
   refine HT2.out.mono ?_
   rintro e w'' ⟨⟨a6,c6,rfl,h8,h9⟩,rfl⟩;have H9:=hid h9;clear h9;go_wp2
   go_ret3
   exact⟨a6,c6,a5,c5,rfl,h8,h5,H9.out,H6.out,hb.trans (h7.mono hb.size)⟩
  | succ k=>
   obtain rfl:I=(k:Int):=Ya;have hne1:¬ k=nx+1:=Ya;have hsl:k+n+1-k=n+1:=Ya;have hkN:k<nx-n+1:=Ya;have hVl:(za V).length=n:=HVl.out;have hVv:zA (dig (za V)) n=V:=by have:=zg V;unfold zo at this;rwa [hVl]at this
   have hW1:W<4294967296^(k+(n+1)):=by
    have h1:=HI.out.lt;have h2:=HN.out.lt;have h3:V*4294967296^(k+1)<4294967296^n*4294967296^(k+1):=Nat.mul_lt_mul_of_pos_right h2 (zbO _);rw[<- Z9,show n+(k+1)=k+(n+1)from Ya]at h3;omega
   have hUl:((List.range (n+1)).map fun j=>zaw W (k+j)).length=n+1:=Yc;have hUs:=HBu.out.part (zd1 W) (i:=k) (m:=n+1) Ya Ya;have hUv:zA (dig ((List.range (n+1)).map fun j=>zaw W (k+j))) (n+1)=W/4294967296^k:=by
    rw[zaj (g:=fun j=>zaw W (k+j)) (fun j hj=>znD (f:=fun j=>zaw W (k+j)) hj)];exact zdn hW1
   have hKn:=zkL h1 HN.out HI.out.lt (fun i=>zJ hUs.lim i) hUv;have hKr:=zkL h1 HN.out HI.out.lt (u:=fun j=>zaw W (k+j)) (fun i=>zd1 _ _) (zdn hW1);have HE:=hid (zoJ (nx+1-k) c2 n hVl hUl Ya hUs HV.out hKn);rw[hUv,hVv]at HE;have HR:=hid (fun(q:Nat) (wv:World) (hbl:Blk wv gu (nx+1) (zaw W) 109) (hvv:zw wv (some ⟨gv,0,none⟩) (za V)) (hq1:W/4294967296^k/V<=q) (hq2:q<=W/4294967296^k/V+1) (hq3:q<=4294967296)=>
    zq2 (nx+1-k) c2 n q hbl (zd1 W) hVl Ya Ya hvu hvv (u:=fun j=>zaw W (k+j)) (fun _=>rfl) hKr (by rw[zdn hW1,hVv];exact hq1) (by rw[zdn hW1,hVv];exact hq2) hq3)
   rw[zdn hW1,hVv]at HR;have HW1:=hid hW1;clear hVl hVv hUl hUs hUv hKn hKr hW1
   go_wp2_with fail
   refine HE.out.mono ?_
   rintro e w' ⟨⟨q,rfl,hq1,hq2,hq3⟩,hbe⟩;have hRq:=HR.out q w' (HBu.out.below hbe) (HV.out.below hbe) hq1 hq2 hq3;obtain⟨HRq,HBo2,HV2⟩:=hd3 hRq (HBo.out.below hbe) (HV.out.below hbe);have hb2:=hb.trans (hbe.mono hb.size);clear HE HR hq1 hq2 hq3 hRq HBo HV HBu hb hbe
   go_wp2_with fail
   refine HRq.out.mono ?_
   rintro e w5 ⟨rfl,hB5,hO5⟩;have hogu:go≠gu:=Ya;obtain⟨HB5,HBo5,HV5⟩:=hd3 hB5 (hO5.blk hogu HBo2.out) (hO5.u32s hvu HV2.out);have hb5:=hb2.trans (hO5.below (B:=w.heap.size) Ya);have f1:=HBo5.out.free k;have hkc:=HBo5.out.cell hkN;have hq:=HI.out.quo HN.out.pos;generalize hQe:W/4294967296^k/V=Q at *;have HQe:=hid hQe;clear HRq HBo2 HV2 hb2 hB5 hO5 hQe;go_wp2;go_roundw
   case rel=>
    refine⟨k,zsZ V k W,(k:Int)-1,zrU V k W o,Ya,Ya,rfl,HI.out.step HN.out.pos hkN,?_,?_,?_,hb5.setCell (by show w.heap.size<=go;omega) _⟩
    ·refine(((zf8.refl go w5).setCell k _).blk Ya HB5.out).congr (fun i hi=>?_)
     have hX:W/4294967296^k%V<4294967296^n:=Nat.lt_trans (Z7 _ HN.out.pos) HN.out.lt;have e:=zob (i:=k) hX i (by rw[Zat];exact HW1.out);unfold zsZ;rw[e];unfold zdU
     by_cases h5:i<k
     ·rw[Zm h5,Zg Ya]
     ·rw[Zg h5]
      by_cases h6:i<k+n
      ·rw[Zm h6,Zm Ya]
      ·rw[Zg h6]
       by_cases h7:i<k+(n+1)
       ·rw[Zm Ya,zaM (Zb hX (Zt Ya Ya))]
       ·rw[Zg Ya,zaM (Zb HW1.out (Zt Ya Ya))]
    ·refine(HBo5.out.set k Q).congr (fun i hi=>?_)
     unfold zrU;rw[HQe.out]
    ·exact((zf8.refl go w5).setCell k _).u32s Ya HV5.out
   case measure=>simp[intOf]
theorem ziB(c d:Nat)(hc:l.length<=c)(hd:m.length<=d)(h:zw w a l)(g:zw w b m)(hx:zo l=x)(hy:zo m=y)(hr:l.length<=1099511627776)(hy0:0<y):
  Calls Tryz.prog 156 #[.slice a l.length c,.slice b m.length d] w (zs0 w x y):=by
 rcases ZaC x y with hlt|hge
 ·exact zjP c d hc hd h g hx hy Ya hlt
 ·have hp:0<(za y).length:=ZJ.2 (fun e=>Ko)
  by_cases h1:(za y).length=1
  ·exact zj6 c d hc hd h g hx hy Ya hge h1
  ·exact zjj c d hc hd h g hx hy hr hge Ya
theorem zsf(c:Nat)(hc:l.length<=c)(h:zw w a l)(hx:zo l=v)(hv:(za v).length<=2):
  Calls Tryz.prog 168 #[.slice a l.length c] w fun e w'=>e=.returned (.tuple #[.int .u64 (v:Int),.bool true])/\w=w':=by
 have HA:=hid (zY c hc h hx);have hll:=h.len;clear h hx hc
 go_enter Tryz.func168,Tryz.ntmps168
 go_wp2_with fail
 refine HA.out.mono ?_
 rintro e w' ⟨⟨a1,c1,rfl,hc1,ha1⟩,rfl⟩;have HU:=hid ha1;clear HA ha1;go_wp2
 go_loop [4,14] (fun x i=>∃k X:Nat,k<=(za v).length/\i=.int .i64 (k:Int)/\x=.int .u64 (X:Int)/\Hid (X=zA (dig (za v)) k)) (fun _ i=>(za v).length-(intOf i).toNat)
 case atStart=>exact⟨0,0,Zs _,rfl,rfl,rfl⟩
 case round=>
  obtain⟨k,X,hk,rfl,rfl,HX⟩:=hrel
  by_cases hlt:k<(za v).length
  ·obtain⟨p1,o1,rfl,hp1,q1⟩:=HU.out.pick hlt;have hd:=zJ (zv v) k;have hk2:k=0∨k=1:=Ya
   rcases hk2 with rfl|rfl
   ·have h0:X=0:=HX.out;subst h0;have E:bits .or .u64 0 (dig (za v) 0:Int)=((dig (za v) 0:Nat):Int):=by
     have:=bits_or_u64_nat 0 (dig (za v) 0) Ya Ya
     simpa using this
    rw[ZU]at q1;go_wp2;exact⟨⟨1,_,hlt,rfl,rfl,by unfold Hid;simp[zA]⟩,by simp[intOf];omega⟩
   ·have hX:X=dig (za v) 0:=by rw[HX.out];simp[zA]
    have hXl:X<4294967296:=by rw[hX];exact zJ (zv v) 0
    have HX0:=hid hX;have E:bits .or .u64 (X:Int) ((dig (za v) 1:Int)*4294967296)=((X+dig (za v) 1*4294967296:Nat):Int):=by
     rw[show((dig (za v) 1:Int)*4294967296)=((dig (za v) 1*4294967296:Nat):Int)from Ya,bits_or_u64_nat _ _ Ya Ya]
     congr 1
     exact zgD (k:=32) Ya Ya
    clear hX;go_wp2;exact⟨⟨2,X+dig (za v) 1*4294967296,hlt,rfl,rfl,by unfold Hid;rw[HX0.out];simp[zA]⟩,by simp[intOf];omega⟩
  ·have hXv:X=v:=by
    have e:k=(za v).length:=Ya;rw[HX.out,e];exact zg v
   have HXv:=hid hXv;clear hXv;go_wp2
   go_ret2
   exact⟨by rw[HXv.out];rfl,rfl⟩
theorem zhH(c:Nat)(hc:l.length<=c)(h:zw w a l)(hx:zo l=0):
  Calls Tryz.prog 166 #[.slice a l.length c] w fun e w'=>e=.returned (.int .i64 0)/\w=w':=by
 have HA:=hid (zY c hc h hx);rw[zy]at HA;have hll:=h.len;clear h hx hc
 go_enter Tryz.func166,Tryz.ntmps166
 go_wp2_with fail
 refine HA.out.mono ?_
 rintro e w' ⟨⟨a1,c1,rfl,hc1,ha1⟩,rfl⟩;clear HA;go_wp2;go_ret;exact⟨rfl,rfl⟩
theorem zjH(c:Nat)(hc:l.length<=c)(h:zw w a l)(hx:zo l=v)(hv:v≠0)(hr:l.length<=17592186044416):
  Calls Tryz.prog 166 #[.slice a l.length c] w fun e w'=>(∃n:Nat,e=.returned (.int .i64 (n:Int))/\0<n/\n<=9223372036854775807)/\w=w':=by
 have HA:=hid (zY c hc h hx);have hll:=h.len;have hle:(za v).length<=l.length:=Ym;have hp:0<(za v).length:=ZJ.2 (fun e=>Ko);have hz1:(((za v).length:Int)==0)=false:=bn0 Ya;obtain⟨_,hL⟩:=zhI (y:=v) hp;obtain⟨hl1,_,_⟩:=Lib.bitLenAux_bounds 64 _ (Nat.lt_trans (zJ (zv v) ((za v).length-1)) Yd) ((zb2 v).resolve_left (ZJ.1 hp));have hl1':1<=Lib.bitLen (dig (za v) ((za v).length-1)):=hl1;have hdl:=zJ (zv v) ((za v).length-1);have HL:=hid (fun wv=>Tryz.bits_Len32 ((dig (za v) ((za v).length-1):Nat):Int) wv Ya Ya);rw[show(((dig (za v) ((za v).length-1):Nat):Int)).toNat=dig (za v) ((za v).length-1)from Yc]at HL;clear h hx hc hl1;generalize hbl:Lib.bitLen (dig (za v) ((za v).length-1))=bl at *;clear hbl
 go_enter Tryz.func166,Tryz.ntmps166
 go_wp2_with fail
 refine HA.out.mono ?_
 rintro e w' ⟨⟨a1,c1,rfl,hc1,ha1⟩,rfl⟩;obtain⟨bb,bo,rfl,hbb,hcell⟩:=ha1.pick (show(za v).length-1<(za v).length from Ya);clear HA ha1
 go_wp2_with fail
 refine(HL.out _).mono ?_
 rintro e w' ⟨rfl,rfl⟩;go_wp2;go_ret;exact⟨⟨32*((za v).length-1)+bl,zaD Ya,Ya,Ya⟩,rfl⟩
theorem zeW(h:(za v).length<=2):v<18446744073709551616:=
 Zb (zaT v) (Zi (Zt Ya h) Yd)
theorem zm4(A:Nat)(hB:0<B):(za (A%B)).length<=(za B).length:=zaC (Zan (Z7 _ hB))
theorem zak:0<(za B).length ↔ 0<B:=by
 rw[ZJ]
 constructor
 ·intro h;exact Zaz fun e=>h (by rw[e,zy])
 ·intro h e;have:=zjK.1 e;omega
theorem zuj(c d:Nat)(hc:l.length<=c)(hd:m.length<=d)(h:zw w a l)(g:zw w b m)(hx:zo l=x)(hy:zo m=y)(hr:l.length<=1099511627776)(hr2:m.length<=1099511627776):
  Calls Tryz.prog 155 #[.slice a l.length c,.slice b m.length d] w (zoN w (Nat.gcd x y)):=by
 obtain⟨HA,HB⟩:=hd2 (zY c hc h hx) (zY d hd g hy);have hll:=h.len;have hlm:=g.len;have hle:(za x).length<=l.length:=Ym;have hle2:(za y).length<=m.length:=Y3;clear h g hx hy hc hd
 go_enter Tryz.func155,Tryz.ntmps155
 go_wp2_with fail
 refine HA.out.mono ?_
 rintro e w' ⟨⟨a1,c1,rfl,hc1,ha1⟩,rfl⟩
 go_wp2_with fail
 refine HB.out.mono ?_
 rintro e w' ⟨⟨b1,d1,rfl,hd1,hb1⟩,rfl⟩;obtain⟨HA1,HB1⟩:=hd2 ha1 hb1;clear HA HB ha1 hb1;go_wp2
 go_loopg [0,1] y (fun k p q wr=>∃(A B:Nat) (a1 b1:Option Addr) (c1 d1:Nat),k=B/\p=.slice a1 (za A).length c1/\q=.slice b1 (za B).length d1/\(za A).length<=c1/\(za B).length<=d1/\(za A).length<=1099511627776/\(za B).length<=1099511627776/\Hid (zw wr a1 (za A))/\Hid (zw wr b1 (za B))/\Hid (Nat.gcd A B=Nat.gcd x y)/\Below w.heap.size w wr)
 case atStart=>exact⟨x,y,a1,b1,c1,d1,rfl,rfl,rfl,hc1,hd1,Ya,Ya,HA1,HB1,rfl,Ze _ _⟩
 case round=>
  clear HA1 HB1 hc1 hd1 hle hle2 hll hlm hr hr2;obtain⟨A,B,a1,b1,c1,d1,hgk,rfl,rfl,hc1,hd1,hrA,hrB,HA1,HB1,HG,hb⟩:=hrel;have HGk:=hid hgk;clear hgk
  by_cases h2:2<(za B).length
  ·have hB0:0<B:=zak.1 Ya;have HD:=hid (ziB c1 d1 hc1 hd1 HA1.out HB1.out (zg A) (zg B) hrA hB0)
   go_wp2_with fail
   refine HD.out.mono ?_
   rintro e w' ⟨a2,c2,a3,c3,rfl,h3,h4,h5,h6,h7⟩;obtain⟨H6,HB2⟩:=hd2 h6 (HB1.out.below h7);have hb2:=hb.trans (h7.mono hb.size);clear HD h5 h6 h7 HA1 HB1 hb;go_wp2
   go_roundg (A%B)
   case measure=>rw[HGk.out];exact Z7 _ hB0
   case rel=>
    exact En
  ·by_cases h0:B=0
   ·subst h0;have HM:=hid (zlO c1 hc1 HA1.out Ya);rw[zg]at HM;have HG0:Hid (A=Nat.gcd x y):=Kf;rw[zy]at *
    go_wp2_with fail
    refine HM.out.mono ?_
    rintro e w' ⟨a2,c2,rfl,h3,h4,h5⟩;go_wp2;go_ret
    refine⟨a2,c2,?_,?_,?_,hb.trans (h5.mono hb.size)⟩
    ·rw[<- HG0.out];rfl
    ·rw[<- HG0.out];exact h3
    ·rw[<- HG0.out];exact h4
   ·have hB0:0<B:=Zaz h0;have hz1:(((za B).length:Int)==0)=false:=by have:=zak.2 hB0;rw[Zaf];omega
    have HD:=hid (ziB c1 d1 hc1 hd1 HA1.out HB1.out (zg A) (zg B) hrA hB0);have hml:=zm4 A hB0;have HB0:=hid hB0;clear h0
    go_wp2_with fail
    refine HD.out.mono ?_
    rintro e w' ⟨a2,c2,a3,c3,rfl,h3,h4,h5,h6,h7⟩;obtain⟨HU1,HU2⟩:=hd2 (zsf d1 hd1 (HB1.out.below h7) (zg B) Ya) (zsf c3 h4 h6 (zg (A%B)) Ya);have hb2:=hb.trans (h7.mono hb.size);have hl1:=zeW (v:=B) Ya;have hl2:=zeW (v:=A%B) Ya;have HG2:Hid (Nat.gcd B (A%B)=Nat.gcd x y):=by
     unfold Hid;rw[<- HG.out,Nat.gcd_comm A B,Nat.gcd_rec B A,Nat.gcd_comm]
    obtain⟨HL1,HL2⟩:=hd2 hl1 hl2;clear HD h5 h6 h7 HA1 HB1 hb hl1 hl2 hml
    go_wp2_with fail
    refine HU1.out.mono ?_
    rintro e w' ⟨rfl,rfl⟩
    go_wp2_with fail
    refine HU2.out.mono ?_
    rintro e w' ⟨rfl,rfl⟩;generalize hR:A%B=R at *;have HR:=hid hR;clear hR HU1 HU2;go_wp2
    go_loopw [11,13] (fun p q wr=>∃X Y:Nat,p=.int .u64 (X:Int)/\q=.int .u64 (Y:Int)/\Hid (X<18446744073709551616)/\Hid (Y<18446744073709551616)/\Hid (Nat.gcd X Y=Nat.gcd x y)/\Below w.heap.size w wr) (fun _ q _=>(intOf q).toNat)
    case atStart=>exact⟨B,R,rfl,rfl,HL1,HL2,HG2,hb2⟩
    case round=>
     clear hb2 HL1 HL2 HG2;obtain⟨X,Y,rfl,rfl,HX,HY,HGr,hb⟩:=hrel
     by_cases hY:Y=0
     ·subst hY;have HO:=hid (nOf X HX.out wr);have HXg:Hid (X=Nat.gcd x y):=by have:=HGr.out;rw[Nat.gcd_zero_right]at this;exact this
      go_wp2_with fail
      refine HO.out.mono ?_
      rintro e w' ⟨a2,c2,rfl,h3,h4,h5⟩;go_wp2;go_ret
      refine⟨a2,c2,?_,?_,?_,hb.trans (h5.mono hb.size)⟩
      ·rw[<- HXg.out];rfl
      ·rw[<- HXg.out];exact h3
      ·rw[<- HXg.out];exact h4
     ·have hY0:0<Y:=Zaz hY;have hYz:((Y:Int)==0)=false:=bn0 Ya;have hYd:decide ((0:Int)<(Y:Int))=true:=YU;have D2:=ze9 X Y;have HmY:=hid (Z7 X hY0);go_wp2
      go_quiet (fail)
      go_wp2;have e:((X:Int)%(Y:Int))=((X%Y:Nat):Int):=Yc;rw[e]
      refine⟨⟨Y,X%Y,rfl,rfl,HY.out,Nat.lt_trans HmY.out HY.out,?_,hb.trans (Below.drewN_refl wr nq |>.mono hb.size)⟩,?_⟩
      ·unfold Hid;rw[<- HGr.out,Nat.gcd_comm X Y,Nat.gcd_rec Y X,Nat.gcd_comm]
      ·simp only[intOf,ZaH];exact HmY.out
theorem zh4{C o:Nat}(hC:C<4294967296)(hx:x<4294967296)(hy:y<4294967296)(ho:o<4294967296):IntKind.u64.wrap ((C:Int)+IntKind.u64.wrap (IntKind.u64.wrap ((x:Int)*(y:Int))+(o:Int)))=((C+x*y+o:Nat):Int):=by
 have h1:=zne hx hy;rw[show((x:Int)*(y:Int))=((x*y:Nat):Int)from Yc,IntKind.wrap_u64,IntKind.wrap_u64,IntKind.wrap_u64];generalize x*y=A at h1⊢;omega
theorem zji{f:Nat->Nat}{y:Nat->Nat}(hf:∀j,f j<4294967296)(hx:x<4294967296)(hy:∀j,y j<4294967296)(i m j:Nat):zbQ f x y i m j<4294967296:=by
 unfold zbQ
 split
 ·exact hf _
 ·split
  ·exact zmJ _ _ _ _
  ·split
   ·exact ziQ hx hy (fun k=>hf _) _
   ·exact hf _
theorem zgM(f:Nat->Nat)(x:Nat)(y:Nat->Nat)(i m z:Nat):(if z=i+m then zf9 x y (fun k=>f (i+k)) m else zdU f i (zi2 x y (fun k=>f (i+k))) m z)=zbQ f x y i m z:=by
 unfold zbQ zdU
 by_cases h1:z=i+m
 ·rw[Zm h1,Zg Ya,Zg Ya,Zm h1]
 ·rw[Zg h1]
  by_cases h2:z<i
  ·rw[Zm h2,Zg Ya]
  ·rw[Zg h2]
   by_cases h3:z<i+m
   ·rw[Zm h3,Zm Ya]
   ·rw[Zg h3,Zg Ya,Zg h1]
structure ze3 (x Y:Nat) (q i:Nat) (f:Nat->Nat):Prop where
 val:zA f (i+q)=zA (dig (za x)) i*Y
 zero:∀j,i+q<=j->f j=0
 lim:∀j,f j<4294967296
theorem ze3.start(x Y q:Nat):ze3 x Y q 0 (fun _=>0):=⟨JB,fun _ _=>rfl,fun _=>Ya⟩
theorem ze3.step{f:Nat->Nat}(h:ze3 x y q i f)(hq:q=(za y).length):ze3 x y q (i+1) (zbQ f (dig (za x) i) (dig (za y)) i q):=by
 have hd:∀z j,dig (za z) j<4294967296:=fun z j=>zJ (zv z) j
 refine⟨?_,fun j hj=>?_,fun j=>zji h.lim (hd _ _) (fun j=>hd _ j) i q j⟩
 ·rw[show i+1+q=i+q+1 from Ya,zhW,h.val,hq,show zA (dig (za y)) (za y).length=y from zg y];simp only[zA];rw[ZK,Zbi]
 ·unfold zbQ;rw[Zg Ya,Zg Ya,Zg Ya];exact h.zero j Ya
theorem ze3.done{f:Nat->Nat}(h:ze3 x y q (za x).length f):zA f ((za x).length+q)=x*y:=by
 rw[h.val,show zA (dig (za x)) (za x).length=x from zg x]
theorem zn0(c d:Nat)(hc:l.length<=c)(hd:m.length<=d)(h:zw w a l)(g:zw w b m)(hx:zo l=x)(hy:zo m=y)(hxy:x=0∨y=0):
  Calls Tryz.prog 161 #[.slice a l.length c,.slice b m.length d] w fun e w'=>e=.returned (.slice none 0 0)/\w=w':=by
 obtain⟨HA,HB⟩:=hd2 (zY c hc h hx) (zY d hd g hy);have hll:=h.len;have hlm:=g.len;have hl1:=(zG h.lim)
 rw[hx]at hl1;clear h g hx hy hc hd
 by_cases hx0:x=0
 ·subst hx0;rw[zy]at HA;clear hxy hl1
  go_enter Tryz.func161,Tryz.ntmps161
  go_wp2_with fail
  refine HA.out.mono ?_
  rintro e w' ⟨⟨a1,c1,rfl,hc1,ha1⟩,rfl⟩
  go_wp2_with fail
  refine HB.out.mono ?_
  rintro e w' ⟨⟨b1,d1,rfl,hd1,hb1⟩,rfl⟩;clear HA HB;go_wp2;go_ret;exact⟨rfl,rfl⟩
 ·have hy0:y=0:=hxy.resolve_left hx0;subst hy0;have hp:=zak.2 (Zaz hx0);have hz:(((za x).length:Int)==0)=false:=bn0 Ya;rw[zy]at HB;clear hxy hx0
  go_enter Tryz.func161,Tryz.ntmps161
  go_wp2_with fail
  refine HA.out.mono ?_
  rintro e w' ⟨⟨a1,c1,rfl,hc1,ha1⟩,rfl⟩
  go_wp2_with fail
  refine HB.out.mono ?_
  rintro e w' ⟨⟨b1,d1,rfl,hd1,hb1⟩,rfl⟩;clear HA HB;go_wp2;go_ret;exact⟨rfl,rfl⟩
theorem zpQ(c d:Nat)(hc:l.length<=c)(hd:m.length<=d)(h:zw w a l)(g:zw w b m)(hx:zo l=x)(hy:zo m=y)(hx0:0<x)(hy0:0<y)(hr:l.length+m.length<=17592186044416):
  Calls Tryz.prog 161 #[.slice a l.length c,.slice b m.length d] w (zoN w (x*y)):=by
 obtain⟨HA,HB⟩:=hd2 (zY c hc h hx) (zY d hd g hy);have hll:=h.len;have hlm:=g.len;have hle:(za x).length<=l.length:=Ym;have hle2:(za y).length<=m.length:=Y3;have hpx:=zak.2 hx0;have hpy:=zak.2 hy0;have hz1:(((za x).length:Int)==0)=false:=bn0 Ya;have hz2:(((za y).length:Int)==0)=false:=bn0 Ya;obtain⟨i0,hi,hz3,hz4,hz5⟩:=info_parts Tryz.infoU32;clear h g hx hy hc hd hx0 hy0
 go_enter Tryz.func161,Tryz.ntmps161
 go_wp2_with fail
 refine HA.out.mono ?_
 rintro e w' ⟨⟨a1,c1,rfl,hc1,ha1⟩,rfl⟩
 go_wp2_with fail
 refine HB.out.mono ?_
 rintro e w' ⟨⟨b1,d1,rfl,hd1,hb1⟩,rfl⟩;obtain⟨HX,HY⟩:=hd2 ha1 hb1;have hrr:(za x).length+(za y).length<=17592186044416:=Ya;clear HA HB ha1 hb1 hle hle2 hr hll hlm;obtain⟨p,hp⟩:∃p,p=(za x).length:=⟨_,rfl⟩
 obtain⟨q,hq⟩:∃q,q=(za y).length:=⟨_,rfl⟩
 obtain⟨HP,HQ⟩:=hd2 hp hq;rw[<- hp]at hc1 hpx hz1 hrr⊢;rw[<- hq]at hd1 hpy hz2 hrr⊢;clear hp hq
 go_wp2_with (at_make;refine wpList_make_full _ rfl _ _ 49 rfl w.heap.size 109 i0 (.int .u32 0) 1 Tryz.underlying49 hi hz3 hz4 _ _ _ _ (p+q) rfl rfl Ya Ya ?b2 ?b3 (Za _) ?_)
 case b2=>rw[hz5];omega
 case b3=>unfold maxLen;omega
 intro w1 hown hgrow;have HB0:Hid (Blk w1 w.heap.size (p+q) (fun _=>0) 109):=by
  refine Blk.of_own (base:=w.heap.size) ?_
  have e:(madeCells #[Value.int IntKind.u32 0] (p+q)).toList=(List.range (p+q)).map fun _=>Value.int .u32 ((0:Nat):Int):=Ec
  rw[<- e];exact hown
 have hb1:Below w.heap.size w w1:=(Ze _ _).grown hgrow (Za _) (fun k h=>YP);clear hown hgrow hz1 hz2 hz3 hz4 hz5 hi;go_wp2
 go_loopw [31] (fun i wr=>∃j:Nat,∃f:Nat->Nat,j<=p/\i=.int .i64 (j:Int)/\Hid (ze3 x y q j f)/\Hid (Blk wr w.heap.size (p+q) f 109)/\Below w.heap.size w wr) (fun i _=>p-(intOf i).toNat)
 case atStart=>exact⟨0,fun _=>0,Zs _,rfl,ze3.start _ _ _,HB0,hb1⟩
 case round=>
  clear HB0 hb1;obtain⟨j,f,hj,rfl,HI,HBl,hb⟩:=hrel
  by_cases hlt:j<p
  ·obtain⟨p1,o1,rfl,hp1,q1⟩:=(HX.out.below hb).pick (k:=j) Xc;have hdx:=zJ (zv x) j;have HYr:=hid (HY.out.below hb);obtain⟨wo,hwo⟩:∃wo:World,wo=wr:=⟨_,rfl⟩
   subst hwo;go_wp2
   go_loopw [8,38] (fun cv i wr=>∃k C:Nat,k<=q/\i=.int .i64 (k:Int)/\cv=.int .u64 (C:Int)/\Hid (C=zf9 (dig (za x) j) (dig (za y)) (fun k=>f (j+k)) k)/\
    Hid (Blk wr w.heap.size (p+q) (zdU f j (zi2 (dig (za x) j) (dig (za y)) (fun k=>f (j+k))) k) 109)/\Below w.heap.size w wr) (fun _ i _=>q-(intOf i).toNat)
   case atStart=>exact⟨0,0,Zs _,rfl,rfl,rfl,JU,hb⟩
   case round=>
    clear HBl hb HYr q1;obtain⟨k,C,hk,rfl,rfl,HC,HBl,hb⟩:=hrel;have hC:C<4294967296:=by rw[HC.out];exact ziQ hdx (fun i=>zJ (zv y) i) (fun i=>HI.out.lim _) k
    by_cases hlt2:k<q
    ·obtain⟨p2,o2,rfl,hp2,q2⟩:=(HY.out.below hb).pick (k:=k) (by rw[<- HQ.out];exact hlt2);have c2:=HBl.out.cell (x:=j+k) Ya;rw[zeB]at c2;have f2:=HBl.out.free (j+k);have hdy:=zJ (zv y) k;have hfo:=HI.out.lim (j+k);obtain⟨HE,hB⟩:=hd2 (zh4 hC hdx hdy hfo) hb;clear hb;go_wp2;go_roundw
     case rel=>
      rw[HE.out];have e1:(((C+dig (za x) j*dig (za y) k+f (j+k):Nat):Int)%4294967296)=((zi2 (dig (za x) j) (dig (za y)) (fun k=>f (j+k)) k:Nat):Int):=by
       unfold zi2;rw[<- HC.out];generalize C+dig (za x) j*dig (za y) k+f (j+k)=A;omega
      have e2:(((C+dig (za x) j*dig (za y) k+f (j+k):Nat):Int)/4294967296)=((zf9 (dig (za x) j) (dig (za y)) (fun k=>f (j+k)) (k+1):Nat):Int):=by
       simp only[zf9];rw[<- HC.out];generalize C+dig (za x) j*dig (za y) k+f (j+k)=A;omega
      refine⟨k+1,_,hlt2,Yg,by rw[e2],rfl,?_,hB.out.setCell (Za _) _⟩
      rw[e1];unfold Hid;rw[zdl];exact HBl.out.set (j+k) _
     case measure=>simp[intOf];omega
    ·obtain rfl:k=q:=Ya;have c2:=HBl.out.cell (x:=j+k) Ya;rw[zeB]at c2;have f2:=HBl.out.free (j+k);have hB:=hid hb;clear hb;go_wp2;go_roundw
     case rel=>
      refine⟨j+1,zbQ f (dig (za x) j) (dig (za y)) j k,hlt,Yg,HI.out.step HQ.out,?_,hB.out.setCell (Za _) _⟩
      rw[HC.out]
      refine(HBl.out.set (j+k) _).congr (fun z hz=>?_)
      exact zgM f _ _ j k z
     case measure=>simp[intOf];omega
  ·obtain rfl:j=p:=Ya;have hU:=HBl.out.u32s (fun i _=>HI.out.lim i) Ya;have hv:zo ((List.range (j+q)).map f)=x*y:=by
    have hd:=HI.out;rw[zbL,HP.out];rw[HP.out]at hd;exact hd.done
   have HT:=zY (j+q) Yc hU hv;simp only[Zv,Zav]at HT;have HT':=hid HT;clear HT hU hv
   go_wp2_with fail
   refine HT'.out.mono ?_
   rintro e w' ⟨⟨a6,c6,rfl,h8,h9⟩,rfl⟩;go_wp2;go_ret;exact⟨a6,c6,rfl,h8,h9,hb⟩
theorem zs6(c d:Nat)(hc:l.length<=c)(hd:m.length<=d)(h:zw w a l)(g:zw w b m)(hx:zo l=x)(hy:zo m=y)(hr:l.length+m.length<=17592186044416):
  Calls Tryz.prog 161 #[.slice a l.length c,.slice b m.length d] w (zoN w (x*y)):=by
 by_cases hxy:x=0∨y=0
 ·refine(zn0 c d hc hd h g hx hy hxy).mono ?_
  rintro e w' ⟨rfl,rfl⟩;have h0:x*y=0:=by rcases hxy with rfl|rfl<;>simp
  exact⟨none,0,by rw[h0,zy];rfl,by rw[h0,zy];exact Za _,by rw[h0,zy];exact zw.nil _ _,Ze _ _⟩
 ·exact zpQ c d hc hd h g hx hy Ya Ya hr
def zX(w:World)(g:Nat):Prop:=∀(o:Nat) (x:Int),w.cell? ⟨g,o,none⟩≠some (.int .u32 x)
theorem zX.below(h:zX w g)(hb:Below w.heap.size w w')(hg:g<w.heap.size):zX w' g:=fun o x e=>h o x ((hb.cell (p:=⟨g,o,none⟩) hg).symm.trans e)
theorem zb7{w:World}{g o:Nat}{v:Value}(h:w.cell? ⟨g,o,none⟩=none):(w.setCell ⟨g,o,none⟩ v).cell? ⟨g,o,none⟩=none:=by
 unfold World.cell? at *;simp only[World.setCell,Zbl,Zm]
 cases hg:w.heap[g]? with
 | none=>simp
 | some ob=>
  rw[hg]at h
  cases ob with
  | cells c e f=>simp at h⊢;omega
  | _=>simp
theorem zX.setCell{w:World}{g:Nat}(h:zX w g)(o:Nat)(v:Value)(hv:∀x,v≠.int .u32 x):zX (w.setCell ⟨g,o,none⟩ v) g:=by
 intro o' x e
 by_cases ho:o'=o
 ·subst ho
  cases hc:w.cell? ⟨g,o',none⟩with
  | none=>
   rw[zb7 hc]at e;cases e
  | some y=>
   rw[Z3 _ _ _ hc]at e;cases e;exact hv _ rfl
 exact I0
theorem zX.alloc(w:World)(cs:Array Value)(T:Nat)(h:cs.all (fun v=>match v with | .int .u32 _=>false|_=>true)=true):zX (w.alloc (.cells cs T)) w.heap.size:=by
 intro o x e;rw[World.cell?_alloc_at _ _ _ _ rfl]at e;rw[Array.all_eq_true']at h;have:=h _ (Zbk e);cases this
theorem zw.setCell(h:zw w a l)(hn:zX w g)(o:Nat)(v:Value):zw (w.setCell ⟨g,o,none⟩ v) a l:=by
 by_cases hl:l=[]
 ·exact IM
 obtain⟨b,off,rfl,hb,hc⟩:=h.open hl;have hp:=ZJ.2 hl;have hne:b≠g:=by
  rintro rfl;exact hn _ _ (hc 0 hp)
 exact((zf8.refl g w).setCell o v).u32s hne h
structure RatV (w:World) (v:Value) (x:zaf):Prop where
 ex:∃(an ad:Option Addr) (cn cd:Nat),v=.agg #[.bool x.neg,.slice an x.num.length cn,.slice ad x.den.length cd]/\x.num.length<=cn/\x.den.length<=cd/\zw w an x.num/\zw w ad x.den
theorem RatV.below{v:Value}{x:zaf}(h:RatV w v x)(hb:Below w.heap.size w w'):RatV w' v x:=by
 obtain⟨an,ad,cn,cd,h1,h2,h3,h4,h5⟩:=h.ex;exact⟨an,ad,cn,cd,h1,h2,h3,h4.below hb,h5.below hb⟩
theorem RatV.lim{v:Value}{x:zaf}(h:RatV w v x):x.Lim:=by
 obtain⟨an,ad,cn,cd,h1,h2,h3,h4,h5⟩:=h.ex;exact⟨h4.lim,h5.lim⟩
def zcj(w:World)(x:zaf)(e:Ending)(w':World):Prop:=∃v,e=.returned v/\RatV w' v x/\Below w.heap.size w w'
theorem zpL(c:Nat)(h:zw w a (za v)):
  Calls Tryz.prog 154 #[.slice a (za v).length c] w fun e w'=>e=.returned (.bool (decide (v=1)))/\w=w':=by
 have hlen:=h.len
 by_cases h1:(za v).length=1
 ·obtain⟨b,off,rfl,hb,hcell⟩:=h.pick (show 0<(za v).length from Ya);have hv:v=dig (za v) 0:=by
   obtain⟨lo,e1,e2⟩:=zeX v Ya;rw[h1]at e1 e2;simp at e1 e2;omega
  rw[<- hv,ZU]at hcell;rw[h1];have hE:((v:Int)==1)=decide (v=1):=by rw[ZZ,ZaS,ZC];omega
  have HE:=hid hE;clear h h1 hv hlen hE
  go_enter Tryz.func154,Tryz.ntmps154
  go_wp2;go_ret;exact⟨zi HE.out,rfl⟩
 ·have hne:(((za v).length:Int)==1)=false:=bn0 Ya;have hv:decide (v=1)=false:=by
   rw[Zag];intro e;apply h1;rw[e,zdc Ya];simp[zy]
  have HV:=hid hv;clear h h1 hv
  go_enter Tryz.func154,Tryz.ntmps154
  go_wp2;go_ret;exact Is
theorem zt5(w:World):Calls Tryz.prog 129 #[] w fun e w'=>(∃a,e=.returned (.slice a 1 1)/\zw w' a [1])/\Below w.heap.size w w':=by
 go_enter Tryz.func129,Tryz.ntmps129
 go_wp2;go_ret
 refine⟨⟨_,rfl,⟨by intro d hd;simp at hd;omega,Yc,.inr ⟨w.heap.size,0,rfl,Yc,fun j d hj=>?_⟩⟩⟩,(Ze _ _).alloc (Za _) _⟩
 exact I6
def zub(w:World)(v:Nat)(n:Nat)(e:Ending)(w':World):Prop:=∃a c l,e=.returned (.slice a l.length c)/\l.length<=c/\zw w' a l/\zo l=v/\l.length<=n/\Below w.heap.size w w'
theorem zgB{v:Value}{x:zaf}(h:RatV w v x)(hr:x.den.length<=17592186044416):Calls Tryz.prog 150 #[v] w (zub w (zr x.den) (x.den.length+1)):=by
 obtain⟨an,ad,cn,cd,rfl,h2,h3,h4,h5⟩:=h.ex;have hd:=fun wv (hu:zw wv ad x.den)=>h5.len
 by_cases h0:zo x.den=0
 ·obtain⟨HB,H5,H0⟩:=hd3 (fun wv (hu:zw wv ad x.den)=>zhH cd h3 hu h0) h5 h0;clear h4 h5 h0 hd h
  go_enter Tryz.func150,Tryz.ntmps150
  go_wp2_with fail
  refine(HB.out _ (H5.out.below ((Ze _ _).alloc (Za _) _))).mono ?_
  rintro e w' ⟨rfl,rfl⟩
  go_wp2_with fail
  refine(zt5 _).mono ?_
  rintro e w' ⟨⟨a1,rfl,hU⟩,hb⟩;go_wp2;go_ret;exact⟨a1,1,[1],rfl,Yc,hU,by unfold zr;rw[Zm H0.out];rfl,Yc,((Ze _ _).alloc (Za _) _).trans (hb.mono Yc)⟩
 ·obtain⟨HB,H5,H0⟩:=hd3 (fun wv (hu:zw wv ad x.den)=>zjH cd h3 hu rfl h0 hr) h5 h0;clear h4 h5 h0 hd h
  go_enter Tryz.func150,Tryz.ntmps150
  go_wp2_with fail
  refine(HB.out _ (H5.out.below ((Ze _ _).alloc (Za _) _))).mono ?_
  rintro e w' ⟨⟨n,rfl,hn1,hn2⟩,rfl⟩;have hz:((n:Int)==0)=false:=bn0 Ya;go_wp2;go_ret;exact⟨ad,cd,x.den,rfl,h3,H5.out.below ((Ze _ _).alloc (Za _) _),by unfold zr;rw[Zg H0.out],Ya,(Ze _ _).alloc (Za _) _⟩
theorem zpo{W w1:World}(hb:Below W.heap.size W w1):(∀b o,b<W.heap.size->w1.cell? ⟨b,o,none⟩=W.cell? ⟨b,o,none⟩)/\(∀b o,b<W.heap.size->w1.frozen? ⟨b,o,none⟩=W.frozen? ⟨b,o,none⟩):=
 ⟨fun b o h=>hb.cell (p:=⟨b,o,none⟩) h,fun b o h=>hb.frozen (p:=⟨b,o,none⟩) h⟩
theorem zlx(neg:Bool)(c e:Nat)(hc:l.length<=c)(h:zw w a l)(hx:zo l=0)(hr:l.length<=1099511627776)(hd:0<d):
  Calls Tryz.prog 128 #[.bool neg,.slice a l.length c,.slice b m.length e] w (zcj w (zbw neg 0 d)):=by
 have HM:=hid (fun wv (hu:zw wv a l)=>zlO c hc hu Ya);rw[hx]at HM;obtain⟨H,hq⟩:=hd2 h (zhX neg hd);have hl:=h.len;clear h hx
 go_enter Tryz.func128,Tryz.ntmps128
 go_wp2_with fail
 refine(HM.out _ (H.out.below ((Ze _ _).alloc (Za _) _))).mono ?_
 rintro e1 w1 ⟨a1,c1,rfl,h1,h2,hb⟩;have hb':=hid hb;obtain⟨hcell,hfree⟩:=zpo hb;have hz:w.heap.size+1<=w1.heap.size:=by have:=hb.size;simpa using this
 rw[zy]at *;clear h2 hb;go_wp2;rw[hq.out]
 refine Zp (v:=.agg #[.bool false,.slice none 0 0,.slice none 0 0]) Y5 rfl ⟨_,rfl,⟨none,none,0,0,rfl,Za _,Za _,zw.nil _ _,zw.nil _ _⟩,?_⟩
 exact(((((Ze w.heap.size w).alloc (Za _) _).trans (hb'.out.mono Yc)).setCell (Za _) _).setCell (Za _) _).setCell (Za _) _
theorem zlD(neg:Bool)(hn:n≠0)(hd:d≠1)(hg:Nat.gcd n d=1):zbw neg n d=⟨neg,za n,za d⟩:=by
 simp[zbw,hg,hn,hd]
theorem zlB(neg:Bool)(hn:n≠0)(hg:d/Nat.gcd n d=1):zbw neg n d=⟨neg,za (n/Nat.gcd n d),[]⟩:=by
 simp[zbw,hg,hn]
theorem znG(neg:Bool)(hn:n≠0)(hg:d/Nat.gcd n d≠1):zbw neg n d=⟨neg,za (n/Nat.gcd n d),za (d/Nat.gcd n d)⟩:=by
 simp[zbw,hg,hn]
theorem znE(neg:Bool)(c e:Nat)(hc:l.length<=c)(he:m.length<=e)(h:zw w a l)(g:zw w b m)(hx:zo l=n)(hy:zo m=d)(hr:l.length<=1099511627776)(hr2:m.length<=1099511627776)(hn:n≠0)(hd:0<d):
  Calls Tryz.prog 128 #[.bool neg,.slice a l.length c,.slice b m.length e] w (zcj w (zbw neg n d)):=by
 have HM:=hid (fun wv (hu:zw wv a l)=>zlO c hc hu Ya);rw[hx]at HM;have HM2:=hid (fun wv (hu:zw wv b m)=>zlO e he hu Ya);rw[hy]at HM2;obtain⟨H,G⟩:=hd2 h g;have hl:=h.len;have hl2:=g.len;have hp:=zak.2 (Zaz hn);have hz1:(((za n).length:Int)==0)=false:=bn0 Ya;have hnl:(za n).length<=1099511627776:=by have:=zG h.lim;rw[hx]at this;omega
 have hdl:(za d).length<=1099511627776:=by have:=zG g.lim;rw[hy]at this;omega
 obtain⟨HN,HD⟩:=hd2 hn hd;clear h g hx hy hn hd
 go_enter Tryz.func128,Tryz.ntmps128
 have hB0:=blA w (zc9 51)
 go_wp2_with fail
 refine(HM.out _ (H.out.below hB0)).mono ?_
 rintro e1 w1 ⟨a1,c1,rfl,h1,h2,hb1⟩;obtain⟨H2,HG2⟩:=hd2 h2 (HM2.out w1 ((G.out.below hB0).below hb1));clear H G h2 HM HM2
 go_wp2_with fail
 refine HG2.out.mono ?_
 rintro e2 w2 ⟨b1,d1,rfl,h3,h4,hb2⟩;obtain⟨H4,H2'⟩:=hd2 h4 (H2.out.below hb2);have hb:=hb1.trans (hb2.mono hb1.size);have HU:=hid (zpL d1 h4);clear HG2 h4 H2 hb1 hb2 hB0;have HNq:=hid (zjM neg HN.out);have hN2:zX w2 w.heap.size:=(zX.alloc w _ 51 Yc).below hb Yc
 by_cases hd1:d=1
 ·subst hd1;obtain⟨hcell,hfree⟩:=zpo hb;have hz:w.heap.size+1<=w2.heap.size:=by have:=hb.size;simpa using this
  have HB:=hid hb;clear hb
  go_wp2_with fail
  refine HU.out.mono ?_
  rintro e3 w3 ⟨rfl,rfl⟩;go_wp2;rw[HNq.out];have hbe:Below w.heap.size w w2:=((Ze _ _).alloc (Za _) _).trans (HB.out.mono Yc);have hbf:=(((hbe.setCell (p:=⟨w.heap.size,0,none⟩) (Za _) (.bool neg)).setCell (p:=⟨w.heap.size,1,none⟩) (Za _) (.slice a1 (za n).length c1)).setCell (p:=⟨w.heap.size,2,none⟩) (Za _) (.slice none 0 0))
  refine Zp (v:=.agg #[.bool neg,.slice a1 (za n).length c1,.slice none 0 0]) Y5 rfl ⟨_,rfl,⟨a1,none,c1,0,rfl,h1,Za _,?_,zw.nil _ _⟩,hbf⟩
  exact((H2'.out.setCell hN2 _ _).setCell (hN2.setCell _ _ Yc) _ _).setCell ((hN2.setCell _ _ Yc).setCell _ _ Yc) _ _
 ·obtain⟨HG,HD1⟩:=hd2 (zuj c1 d1 h1 h3 H2'.out H4.out (zg n) (zg d) hnl hdl) hd1;rw[Zj hd1]at HU;clear hd1
  go_wp2_with fail
  refine HU.out.mono ?_
  rintro e3 w3 ⟨rfl,rfl⟩
  go_wp2_with fail
  refine HG.out.mono ?_
  rintro e3 w3 ⟨a3,c3,rfl,h5,h6,hb3⟩;have hgp:0<Nat.gcd n d:=Nat.gcd_pos_of_pos_right n HD.out;have hbb:=hb.trans (hb3.mono hb.size);obtain⟨HNum,HDen,HU3,H6,HN3⟩:=hd5 (H2'.out.below hb3) (H4.out.below hb3) (zpL c3 h6) h6 ((hN2).below hb3 (by have:=hb.size;simp at this;omega));clear HG HU h6 hb3 hb H2' H4 HNq hN2
  by_cases hg1:Nat.gcd n d=1
  ·rw[hg1]at HU3;have hq:=hid (zlD neg HN.out HD1.out hg1);rw[hg1]at h5⊢;have HUd:=hid (zpL d1 HDen.out);rw[Zj HD1.out]at HUd;clear hg1
   go_wp2_with fail
   refine HU3.out.mono ?_
   rintro e3 w4 ⟨rfl,rfl⟩
   go_wp2_with fail
   refine HUd.out.mono ?_
   rintro e3 w4 ⟨rfl,rfl⟩;obtain⟨hcell,hfree⟩:=zpo hbb;have hz:w.heap.size+1<=w3.heap.size:=by have:=hbb.size;simpa using this
   have HB:=hid hbb;clear hbb;go_wp2;rw[hq.out];have hbe:Below w.heap.size w w3:=((Ze _ _).alloc (Za _) _).trans (HB.out.mono Yc);have hbf:=(((hbe.setCell (p:=⟨w.heap.size,0,none⟩) (Za _) (.bool neg)).setCell (p:=⟨w.heap.size,1,none⟩) (Za _) (.slice a1 (za n).length c1)).setCell (p:=⟨w.heap.size,2,none⟩) (Za _) (.slice b1 (za d).length d1))
   refine Zp (v:=.agg #[.bool neg,.slice a1 (za n).length c1,.slice b1 (za d).length d1]) Y5 rfl ⟨_,rfl,⟨a1,b1,c1,d1,rfl,h1,h3,?_,?_⟩,hbf⟩
   ·exact((HNum.out.setCell HN3.out _ _).setCell (HN3.out.setCell _ _ Yc) _ _).setCell ((HN3.out.setCell _ _ Yc).setCell _ _ Yc) _ _
   ·exact((HDen.out.setCell HN3.out _ _).setCell (HN3.out.setCell _ _ Yc) _ _).setCell ((HN3.out.setCell _ _ Yc).setCell _ _ Yc) _ _
  ·rw[Zj hg1]at HU3;have HDv1:=hid (ziB c1 c3 h1 h5 HNum.out H6.out (zg n) (zg _) hnl hgp);clear hg1
   go_wp2_with fail
   refine HU3.out.mono ?_
   rintro e3 w4 ⟨rfl,rfl⟩
   go_wp2_with fail
   refine HDv1.out.mono ?_
   rintro e3 w4 ⟨a4,c4,a4',c4',rfl,h7,h7',h8,h8',hb4⟩;obtain⟨HDv2,H8⟩:=hd2 (ziB d1 c3 h3 h5 (HDen.out.below hb4) (H6.out.below hb4) (zg d) (zg _) hdl hgp) h8;have hbc:=hbb.trans (hb4.mono hbb.size);have HN4:=hid (HN3.out.below hb4 (by have:=hbb.size;simp at this;omega));clear HU3 HDv1 h8 h8' hb4 hbb HN3 HNum HDen H6
   go_wp2_with fail
   refine HDv2.out.mono ?_
   rintro e3 w5 ⟨a5,c5,a5',c5',rfl,h9,h9',h10,h10',hb5⟩;obtain⟨H8',HUd,H10⟩:=hd3 (H8.out.below hb5) (zpL c5 h10) h10;have hbd:=hbc.trans (hb5.mono hbc.size);have HN5:=hid (HN4.out.below hb5 (by have:=hbc.size;simp at this;omega));obtain⟨hcell,hfree⟩:=zpo hbd;have hz:w.heap.size+1<=w5.heap.size:=by have:=hbd.size;simpa using this
   have HB:=hid hbd;clear HDv2 h10 h10' hb5 hbc HN4 hbd H8
   by_cases hq1:d/Nat.gcd n d=1
   ·rw[Zk hq1]at HUd;have hq:=hid (zlB neg HN.out hq1);clear hq1
    go_wp2_with fail
    refine HUd.out.mono ?_
    rintro e3 w6 ⟨rfl,rfl⟩;go_wp2;rw[hq.out];have hbe:Below w.heap.size w w5:=((Ze _ _).alloc (Za _) _).trans (HB.out.mono Yc);have hbf:=(((hbe.setCell (p:=⟨w.heap.size,0,none⟩) (Za _) (.bool neg)).setCell (p:=⟨w.heap.size,1,none⟩) (Za _) (.slice a4 (za (n/Nat.gcd n d)).length c4)).setCell (p:=⟨w.heap.size,2,none⟩) (Za _) (.slice none 0 0))
    refine Zp (v:=.agg #[.bool neg,.slice a4 (za (n/Nat.gcd n d)).length c4,.slice none 0 0]) Y5 rfl ⟨_,rfl,⟨a4,none,c4,0,rfl,h7,Za _,?_,zw.nil _ _⟩,hbf⟩
    exact EU
   ·rw[Zj hq1]at HUd;have hq:=hid (znG neg HN.out hq1);clear hq1
    go_wp2_with fail
    refine HUd.out.mono ?_
    rintro e3 w6 ⟨rfl,rfl⟩;go_wp2;rw[hq.out];have hbe:Below w.heap.size w w5:=((Ze _ _).alloc (Za _) _).trans (HB.out.mono Yc);have hbf:=(((hbe.setCell (p:=⟨w.heap.size,0,none⟩) (Za _) (.bool neg)).setCell (p:=⟨w.heap.size,1,none⟩) (Za _) (.slice a4 (za (n/Nat.gcd n d)).length c4)).setCell (p:=⟨w.heap.size,2,none⟩) (Za _) (.slice a5 (za (d/Nat.gcd n d)).length c5))
    refine Zp (v:=.agg #[.bool neg,.slice a4 (za (n/Nat.gcd n d)).length c4,.slice a5 (za (d/Nat.gcd n d)).length c5]) Y5 rfl ⟨_,rfl,⟨a4,a5,c4,c5,rfl,h7,h9,?_,?_⟩,hbf⟩
    ·exact EU
    ·exact((H10.out.setCell HN5.out _ _).setCell (HN5.out.setCell _ _ Yc) _ _).setCell ((HN5.out.setCell _ _ Yc).setCell _ _ Yc) _ _
theorem zod(neg:Bool)(c e:Nat)(hc:l.length<=c)(he:m.length<=e)(h:zw w a l)(g:zw w b m)(hx:zo l=n)(hy:zo m=d)(hr:l.length<=1099511627776)(hr2:m.length<=1099511627776)(hd:0<d):
  Calls Tryz.prog 128 #[.bool neg,.slice a l.length c,.slice b m.length e] w (zcj w (zbw neg n d)):=by
 by_cases hn:n=0
 ·subst hn;exact zlx neg c e hc h hx hr hd
 ·exact znE neg c e hc he h g hx hy hr hr2 hn hd
theorem zqN{A c:Nat}(hA:A<4294967296)(hc:c<=1):IntKind.u64.wrap ((c:Int)+(A:Int))=((c+A:Nat):Int):=by
 rw[IntKind.wrap_u64];omega
theorem zkT{P:List Nat}(hp:P.length=p)(hq:Q.length<=p):
  zo ((List.range (p+1)).map fun z=>if z=p then zV (dig P) (dig Q) p else zdU (fun _=>0) 0 (zf3 (dig P) (dig Q)) p z)=zo P+zo Q:=by
 rw[zbL];show zA _ p+_*4294967296^p=_
 simp only[if_true];rw[zaj (n:=p) (g:=zf3 (dig P) (dig Q)) (fun i hi=>by unfold zdU;rw[Zg Ya,Zm Ya,Nat.sub_zero]),ztQ];unfold zo;rw[hp]
 congr 1
 exact ze1 hq (fun i h1 _=>zcS h1)
theorem zri(c d:Nat)(hc:l.length<=c)(hd:m.length<=d)(h:zw w a l)(g:zw w b m)(hx:zo l=x)(hy:zo m=y)(hr:l.length+m.length<=17592186044416)(hlt:(za y).length<=(za x).length):
  Calls Tryz.prog 178 #[.slice a l.length c,.slice b m.length d] w (zoN w (x+y)):=by
 obtain⟨HA,HB⟩:=hd2 (zY c hc h hx) (zY d hd g hy);have hle:(za x).length<=l.length:=Ym;have hle2:(za y).length<=m.length:=Y3;have hrr:(za x).length+(za y).length<=17592186044416:=Ya;obtain⟨i0,hi,hz3,hz4,hz5⟩:=info_parts Tryz.infoU32;have d1:decide ((za x).length<(za y).length)=false:=Zj Ya;have HSum:=hid (zkT (P:=za x) (Q:=za y) rfl Ya);clear h g hx hy hc hd hr hle hle2
 go_enter Tryz.func178,Tryz.ntmps178
 go_wp2_with fail
 refine HA.out.mono ?_
 rintro e w' ⟨⟨a1,c1,rfl,hc1,ha1⟩,rfl⟩
 go_wp2_with fail
 refine HB.out.mono ?_
 rintro e w' ⟨⟨b1,d1',rfl,hd1,hb1⟩,rfl⟩;obtain⟨HX,HY⟩:=hd2 ha1 hb1;have HCom:Hid (zo (za x)+zo (za y)=x+y):=Vg;clear HA HB ha1 hb1;obtain⟨p,hp⟩:∃p,p=(za x).length:=⟨_,rfl⟩
 obtain⟨q,hq⟩:∃q,q=(za y).length:=⟨_,rfl⟩
 obtain⟨HP,HQ⟩:=hd2 hp hq;rw[<- hp]at hc1 hlt d1 hrr HSum⊢;rw[<- hq]at hd1 hlt d1 hrr⊢;clear hp hq;have hqp:q<=p:=Ya;clear hlt
 go_wp2_with (at_make;refine wpList_make_full _ rfl _ _ 49 rfl w.heap.size 109 i0 (.int .u32 0) 1 Tryz.underlying49 hi hz3 hz4 _ _ _ _ (p+1) rfl rfl Ya Ya ?b2 ?b3 (Za _) ?_)
 case b2=>rw[hz5];omega
 case b3=>unfold maxLen;omega
 intro w1 hown hgrow;have HB0:Hid (Blk w1 w.heap.size (p+1) (fun _=>0) 109):=TP;have hb1:Below w.heap.size w w1:=(Ze _ _).grown hgrow (Za _) (fun k h=>YP);clear hown hgrow hz3 hz4 hz5 hi d1;go_wp2
 go_loopw [6,26] (fun cv i wr=>∃k:Nat,k<=p/\i=.int .i64 (k:Int)/\cv=.int .u64 (zV (dig (za x)) (dig (za y)) k:Int)/\Hid (Blk wr w.heap.size (p+1) (zdU (fun _=>0) 0 (zf3 (dig (za x)) (dig (za y))) k) 109)/\Below w.heap.size w wr) (fun _ i _=>p-(intOf i).toNat)
 case atStart=>exact⟨0,Zs _,rfl,rfl,V0,hb1⟩
 case round=>
  clear HB0 hb1;obtain⟨k,hk,rfl,rfl,HBl,hb⟩:=hrel;have hcy:=ze2 (n:=k) (zJ (zv x)) (zJ (zv y));have HBc:=hid hb
  by_cases hlt:k<p
  ·obtain⟨p1,o1,rfl,hp1,q1⟩:=(HX.out.below hb).pick (k:=k) Xc;have hdx:=zJ (zv x) k;have hdy:=zJ (zv y) k;have c2:=HBl.out.cell (x:=k) Ya;have f2:=HBl.out.free k;have HE:=hid (zqN hdx hcy);have HCn:Hid (zV (dig (za x)) (dig (za y)) (k+1)=(zV (dig (za x)) (dig (za y)) k+dig (za x) k+dig (za y) k)/4294967296):=rfl;have HDn:Hid (zf3 (dig (za x)) (dig (za y)) k=(zV (dig (za x)) (dig (za y)) k+dig (za x) k+dig (za y) k)%4294967296):=rfl;have HBl2:=hid (fun(v:Nat) (hv:v=zf3 (dig (za x)) (dig (za y)) k)=>(show Blk (wr.setCell ⟨w.heap.size,k,none⟩ (.int .u32 (v:Int))) w.heap.size (p+1) (zdU (fun _=>0) 0 (zf3 (dig (za x)) (dig (za y))) (k+1)) 109 from by
    exact Iy))
   by_cases hkq:k<q
   ·obtain⟨p2,o2,rfl,hp2,q2⟩:=(HY.out.below hb).pick (k:=k) JQ;generalize dig (za x) k=dx at *;generalize dig (za y) k=dy at *;generalize zV (dig (za x)) (dig (za y)) k=cy at *;exact Ex
   ·have hz:dig (za y) k=0:=zcS VJ;rw[hz]at HCn HDn;have d2:decide (k<q)=false:=Zj hkq;generalize dig (za x) k=dx at *;generalize zV (dig (za x)) (dig (za y)) k=cy at *;exact Ef
  ·obtain rfl:k=p:=Ya;have c2:=HBl.out.cell (x:=k) Ya;have f2:=HBl.out.free k;have HBl2:=hid (fun(v:Nat)=>HBl.out.set k v);have hcb:zV (dig (za x)) (dig (za y)) k<4294967296:=Ya;have hcm:((zV (dig (za x)) (dig (za y)) k:Nat):Int)%4294967296=((zV (dig (za x)) (dig (za y)) k:Nat):Int):=Ya;have HLt:Hid (∀z,z<k+1->(if z=k then zV (dig (za x)) (dig (za y)) k else zdU (fun _=>0) 0 (zf3 (dig (za x)) (dig (za y))) k z)<4294967296):=EF;clear hb hqp
   go_wp2_with fail
   have hU:=(HBl2.out (zV (dig (za x)) (dig (za y)) k)).u32s (fun i hi=>HLt.out i hi) Ya;have HT:=zY (k+1) Yc hU (HSum.out.trans HCom.out);simp only[Zv,Zav]at HT
   refine HT.mono ?_
   rintro e w' ⟨⟨a6,c6,rfl,h8,h9⟩,rfl⟩;obtain⟨H8,H9,HB9⟩:=hd3 h8 h9 (show Below w.heap.size w (wr.setCell ⟨w.heap.size,k,none⟩ (.int .u32 (zV (dig (za x)) (dig (za y)) k:Int)))from HBc.out.setCell (Za _) _);clear HT hU h8 h9;go_wp2;go_ret;exact⟨a6,c6,rfl,H8.out,H9.out,HB9.out⟩
theorem zrh(c d:Nat)(hc:l.length<=c)(hd:m.length<=d)(h:zw w a l)(g:zw w b m)(hx:zo l=x)(hy:zo m=y)(hr:l.length+m.length<=17592186044416)(hlt:(za x).length<(za y).length):
  Calls Tryz.prog 178 #[.slice a l.length c,.slice b m.length d] w (zoN w (x+y)):=by
 obtain⟨HA,HB⟩:=hd2 (zY c hc h hx) (zY d hd g hy);have hle:(za x).length<=l.length:=Ym;have hle2:(za y).length<=m.length:=Y3;have hrr:(za x).length+(za y).length<=17592186044416:=Ya;obtain⟨i0,hi,hz3,hz4,hz5⟩:=info_parts Tryz.infoU32;have d1:decide ((za x).length<(za y).length)=true:=Zk Ya;have HSum:=hid (zkT (P:=za y) (Q:=za x) rfl Ya);clear h g hx hy hc hd hr hle hle2
 go_enter Tryz.func178,Tryz.ntmps178
 go_wp2_with fail
 refine HA.out.mono ?_
 rintro e w' ⟨⟨a1,c1,rfl,hc1,ha1⟩,rfl⟩
 go_wp2_with fail
 refine HB.out.mono ?_
 rintro e w' ⟨⟨b1,d1',rfl,hd1,hb1⟩,rfl⟩;obtain⟨HX,HY⟩:=hd2 hb1 ha1;have HCom:Hid (zo (za y)+zo (za x)=x+y):=by unfold Hid;rw[zg,zg];exact Zbt _ _
 clear HA HB ha1 hb1;obtain⟨p,hp⟩:∃p,p=(za y).length:=⟨_,rfl⟩
 obtain⟨q,hq⟩:∃q,q=(za x).length:=⟨_,rfl⟩
 obtain⟨HP,HQ⟩:=hd2 hp hq;rw[<- hp]at hd1 hlt d1 hrr HSum⊢;rw[<- hq]at hc1 hlt d1 hrr⊢;clear hp hq;have hqp:q<=p:=Ya;clear hlt
 go_wp2_with (at_make;refine wpList_make_full _ rfl _ _ 49 rfl w.heap.size 109 i0 (.int .u32 0) 1 Tryz.underlying49 hi hz3 hz4 _ _ _ _ (p+1) rfl rfl Ya Ya ?b2 ?b3 (Za _) ?_)
 case b2=>rw[hz5];omega
 case b3=>unfold maxLen;omega
 intro w1 hown hgrow;have HB0:Hid (Blk w1 w.heap.size (p+1) (fun _=>0) 109):=TP;have hb1:Below w.heap.size w w1:=(Ze _ _).grown hgrow (Za _) (fun k h=>YP);clear hown hgrow hz3 hz4 hz5 hi d1;go_wp2
 go_loopw [6,26] (fun cv i wr=>∃k:Nat,k<=p/\i=.int .i64 (k:Int)/\cv=.int .u64 (zV (dig (za y)) (dig (za x)) k:Int)/\Hid (Blk wr w.heap.size (p+1) (zdU (fun _=>0) 0 (zf3 (dig (za y)) (dig (za x))) k) 109)/\Below w.heap.size w wr) (fun _ i _=>p-(intOf i).toNat)
 case atStart=>exact⟨0,Zs _,rfl,rfl,V0,hb1⟩
 case round=>
  clear HB0 hb1;obtain⟨k,hk,rfl,rfl,HBl,hb⟩:=hrel;have hcy:=ze2 (n:=k) (zJ (zv y)) (zJ (zv x));have HBc:=hid hb
  by_cases hlt:k<p
  ·obtain⟨p1,o1,rfl,hp1,q1⟩:=(HX.out.below hb).pick (k:=k) Xc;have hdx:=zJ (zv y) k;have hdy:=zJ (zv x) k;have c2:=HBl.out.cell (x:=k) Ya;have f2:=HBl.out.free k;have HE:=hid (zqN hdx hcy);have HCn:Hid (zV (dig (za y)) (dig (za x)) (k+1)=(zV (dig (za y)) (dig (za x)) k+dig (za y) k+dig (za x) k)/4294967296):=rfl;have HDn:Hid (zf3 (dig (za y)) (dig (za x)) k=(zV (dig (za y)) (dig (za x)) k+dig (za y) k+dig (za x) k)%4294967296):=rfl;have HBl2:=hid (fun(v:Nat) (hv:v=zf3 (dig (za y)) (dig (za x)) k)=>(show Blk (wr.setCell ⟨w.heap.size,k,none⟩ (.int .u32 (v:Int))) w.heap.size (p+1) (zdU (fun _=>0) 0 (zf3 (dig (za y)) (dig (za x))) (k+1)) 109 from by
    exact Iy))
   by_cases hkq:k<q
   ·obtain⟨p2,o2,rfl,hp2,q2⟩:=(HY.out.below hb).pick (k:=k) JQ;generalize dig (za y) k=dx at *;generalize dig (za x) k=dy at *;generalize zV (dig (za y)) (dig (za x)) k=cy at *;exact Ex
   ·have hz:dig (za x) k=0:=zcS VJ;rw[hz]at HCn HDn;have d2:decide (k<q)=false:=Zj hkq;generalize dig (za y) k=dx at *;generalize zV (dig (za y)) (dig (za x)) k=cy at *;exact Ef
  ·obtain rfl:k=p:=Ya;have c2:=HBl.out.cell (x:=k) Ya;have f2:=HBl.out.free k;have HBl2:=hid (fun(v:Nat)=>HBl.out.set k v);have hcb:zV (dig (za y)) (dig (za x)) k<4294967296:=Ya;have hcm:((zV (dig (za y)) (dig (za x)) k:Nat):Int)%4294967296=((zV (dig (za y)) (dig (za x)) k:Nat):Int):=Ya;have HLt:Hid (∀z,z<k+1->(if z=k then zV (dig (za y)) (dig (za x)) k else zdU (fun _=>0) 0 (zf3 (dig (za y)) (dig (za x))) k z)<4294967296):=EF;clear hb hqp
   go_wp2_with fail
   have hU:=(HBl2.out (zV (dig (za y)) (dig (za x)) k)).u32s (fun i hi=>HLt.out i hi) Ya;have HT:=zY (k+1) Yc hU (HSum.out.trans HCom.out);simp only[Zv,Zav]at HT
   refine HT.mono ?_
   rintro e w' ⟨⟨a6,c6,rfl,h8,h9⟩,rfl⟩;obtain⟨H8,H9,HB9⟩:=hd3 h8 h9 (show Below w.heap.size w (wr.setCell ⟨w.heap.size,k,none⟩ (.int .u32 (zV (dig (za y)) (dig (za x)) k:Int)))from HBc.out.setCell (Za _) _);clear HT hU h8 h9;go_wp2;go_ret;exact⟨a6,c6,rfl,H8.out,H9.out,HB9.out⟩
theorem zus(c d:Nat)(hc:l.length<=c)(hd:m.length<=d)(h:zw w a l)(g:zw w b m)(hx:zo l=x)(hy:zo m=y)(hr:l.length+m.length<=17592186044416):
  Calls Tryz.prog 178 #[.slice a l.length c,.slice b m.length d] w (zoN w (x+y)):=by
 by_cases hlt:(za x).length<(za y).length
 ·exact zrh c d hc hd h g hx hy hr hlt
 ·exact zri c d hc hd h g hx hy hr Ya
theorem zq8{a b:Nat}(ha:a<4294967296)(hp:p<=1)(hb:b<4294967296):
  IntKind.u64.wrap (IntKind.u64.wrap ((a:Int)-(p:Int))-(b:Int))%4294967296=((a+4294967296*(if a<p+b then 1 else 0)-(p+b):Nat):Int):=EO
theorem zpd{a b:Nat}(ha:a<4294967296)(hp:p<=1)(hb:b<4294967296):
  IntKind.u64.wrap (IntKind.u64.wrap ((a:Int)-(p:Int))-(b:Int))/9223372036854775808=((if a<p+b then 1 else 0:Nat):Int):=EO
theorem zpx{a:Nat}(ha:a<4294967296)(hp:p<=1):IntKind.u64.wrap ((a:Int)-(p:Int))%4294967296=((a+4294967296*(if a<p+0 then 1 else 0)-(p+0):Nat):Int):=by
 rw[IntKind.wrap_u64]
 split<;>omega
theorem zov{a:Nat}(ha:a<4294967296)(hp:p<=1):IntKind.u64.wrap ((a:Int)-(p:Int))/9223372036854775808=((if a<p+0 then 1 else 0:Nat):Int):=by
 rw[IntKind.wrap_u64]
 split<;>omega
theorem zp1{P:List Nat}(hP:Lim P)(hQ:Lim Q)(hp:P.length=p)(hq:Q.length<=p)(h:zo Q<=zo P):
  zo ((List.range p).map fun z=>zdU (fun _=>0) 0 (zgz (dig P) (dig Q)) p z)=zo P-zo Q:=by
 have e2:zA (dig Q) p=zo Q:=by
  unfold zo;exact ze1 hq (fun i h1 _=>zcS h1)
 have e1:zA (dig P) p=zo P:=by unfold zo;rw[hp]
 rw[zbL,zaj (n:=p) (g:=zgz (dig P) (dig Q)) (fun i hi=>by unfold zdU;rw[Zm Ya,Nat.sub_zero])];rw[(zlm (zJ hP) (zJ hQ) (by rw[e1,e2];exact h)).1,e1,e2]
def ztF(w:World)(v:Nat)(e:Ending)(w':World):Prop:=∃a c,e=.returned (.tuple #[.slice a (za v).length c,.int .i64 0])/\(za v).length<=c/\zw w' a (za v)/\Below w.heap.size w w'
theorem zt2(c d:Nat)(hc:l.length<=c)(hd:m.length<=d)(h:zw w a l)(g:zw w b m)(hx:zo l=x)(hy:zo m=y)(hr:l.length+m.length<=17592186044416)(hxy:y<=x):
  Calls Tryz.prog 179 #[.slice a l.length c,.slice b m.length d] w (ztF w (x-y)):=by
 obtain⟨HA,HB⟩:=hd2 (zY c hc h hx) (zY d hd g hy);have hle:(za x).length<=l.length:=Ym;have hle2:(za y).length<=m.length:=Y3;have hlt:(za y).length<=(za x).length:=zaC hxy;have hrr:(za x).length+(za y).length<=17592186044416:=Ya;obtain⟨i0,hi,hz3,hz4,hz5⟩:=info_parts Tryz.infoU32;have HDf:=hid (zp1 (P:=za x) (Q:=za y) (zv x) (zv y) rfl hlt (by rw[zg,zg];exact hxy));have hcmp:decide (zdR x y<0)=false:=by
  apply Zj
  unfold zdR;rw[Zg Ya]
  split<;>omega
 clear h g hx hy hc hd hr hle hle2 hxy
 go_enter Tryz.func179,Tryz.ntmps179
 go_wp2_with fail
 refine HA.out.mono ?_
 rintro e w' ⟨⟨a1,c1,rfl,hc1,ha1⟩,rfl⟩
 go_wp2_with fail
 refine HB.out.mono ?_
 rintro e w' ⟨⟨b1,d1',rfl,hd1,hb1⟩,rfl⟩;obtain⟨HX,HY,HCm⟩:=hd3 ha1 hb1 (zrH c1 d1' hc1 hd1 ha1 hb1 (zg x) (zg y));have HCom:Hid (zo (za x)-zo (za y)=x-y):=Vg;clear HA HB ha1 hb1
 go_wp2_with fail
 refine HCm.out.mono ?_
 rintro e wq ⟨rfl,n0,hw0⟩;obtain⟨HX0,HY0,HB0⟩:=hd3 (show zw wq a1 (za x)from by subst hw0;exact HX.out.below (Below.drewN_refl _ _)) (show zw wq b1 (za y)from by subst hw0;exact HY.out.below (Below.drewN_refl _ _)) (show Below w.heap.size w wq from by subst hw0;exact Below.drewN_refl _ _);clear HX HY HCm hw0;obtain⟨p,hp⟩:∃p,p=(za x).length:=⟨_,rfl⟩
 obtain⟨q,hq⟩:∃q,q=(za y).length:=⟨_,rfl⟩
 obtain⟨HP,HQ⟩:=hd2 hp hq;rw[<- hp]at hc1 hlt hrr HDf⊢;rw[<- hq]at hd1 hlt hrr⊢;clear hp hq;have hqp:q<=p:=Ya;clear hlt
 go_wp2_with (at_make;refine wpList_make_full _ rfl _ _ 49 rfl wq.heap.size 109 i0 (.int .u32 0) 1 Tryz.underlying49 hi hz3 hz4 _ _ _ _ p rfl rfl Ya Ya ?b2 ?b3 (Za _) ?_)
 case b2=>rw[hz5];omega
 case b3=>unfold maxLen;omega
 intro w1 hown hgrow;have HBk:Hid (Blk w1 wq.heap.size p (fun _=>0) 109):=by
  refine Blk.of_own (base:=wq.heap.size) ?_
  have e:(madeCells #[Value.int IntKind.u32 0] p).toList=(List.range p).map fun _=>Value.int .u32 ((0:Nat):Int):=Ec
  rw[<- e];exact hown
 have hb1:Below wq.heap.size wq w1:=(Ze _ _).grown hgrow (Za _) (fun k h=>YP);obtain⟨G,hG⟩:∃G,G=wq.heap.size:=⟨_,rfl⟩
 obtain⟨HGw,HX1⟩:=hd2 (show w.heap.size<=G from by rw[hG];exact HB0.out.size) (HX0.out);rw[<- hG]at HBk hb1⊢;have hBx:Hid (∀wr,Below G wq wr->zw wr a1 (za x)/\zw wr b1 (za y)/\Below w.heap.size w wr):=fun wr hb=>by
  rw[hG]at hb;exact⟨HX0.out.below hb,HY0.out.below hb,HB0.out.trans (hb.mono HB0.out.size)⟩
 clear hown hgrow hz3 hz4 hz5 hi hcmp HX0 HY0 HB0 HX1 hG;go_wp2
 go_loopw [7,8,9,10,24] (fun bv i0' d0' x0' i wr=>∃k:Nat,k<=p/\i=.int .i64 (k:Int)/\bv=.int .u64 (zd2 (dig (za x)) (dig (za y)) k:Int)/\Hid (Blk wr G p (zdU (fun _=>0) 0 (zgz (dig (za x)) (dig (za y))) k) 109)/\Below G wq wr) (fun _ _ _ _ i _=>p-(intOf i).toNat)
 case atStart=>exact⟨0,Zs _,rfl,rfl,by unfold Hid;rw[zd5];exact HBk,hb1⟩
 case round=>
  clear HBk hb1;obtain⟨k,hk,rfl,rfl,HBl,hb⟩:=hrel;have hcy:=zfr (dig (za x)) (dig (za y)) k;have HBc:=hid hb;obtain⟨hxr,hyr,hbr⟩:=hBx.out _ hb;obtain⟨HXr,HYr,HBr⟩:=hd3 hxr hyr hbr;clear hxr hyr hbr
  by_cases hlt:k<p
  ·obtain⟨p1,o1,rfl,hp1,q1⟩:=HXr.out.pick (k:=k) Xc;have hdx:=zJ (zv x) k;have hdy:=zJ (zv y) k;have c2:=HBl.out.cell (x:=k) Ya;have f2:=HBl.out.free k;have HCn:Hid (zd2 (dig (za x)) (dig (za y)) (k+1)=(if dig (za x) k<zd2 (dig (za x)) (dig (za y)) k+dig (za y) k then 1 else 0)):=rfl;have HDn:Hid (zgz (dig (za x)) (dig (za y)) k=dig (za x) k+4294967296*(if dig (za x) k<zd2 (dig (za x)) (dig (za y)) k+dig (za y) k then 1 else 0)-(zd2 (dig (za x)) (dig (za y)) k+dig (za y) k)):=rfl;have HBl2:=hid (fun(v:Nat) (hv:v=zgz (dig (za x)) (dig (za y)) k)=>(show Blk (wr.setCell ⟨G,k,none⟩ (.int .u32 (v:Int))) G p (zdU (fun _=>0) 0 (zgz (dig (za x)) (dig (za y))) (k+1)) 109 from by
    exact Iy))
   by_cases hkq:k<q
   ·obtain⟨p2,o2,rfl,hp2,q2⟩:=HYr.out.pick (k:=k) JQ;generalize zgz (dig (za x)) (dig (za y)) k=dg at *;generalize dig (za x) k=dx at *;generalize dig (za y) k=dy at *;generalize zd2 (dig (za x)) (dig (za y)) k=cy at *;obtain⟨HL,HH⟩:=hd2 (zq8 hdx hcy hdy) (zpd hdx hcy hdy);clear hb;exact Ey
   ·have hz:dig (za y) k=0:=zcS VJ;rw[hz]at HCn HDn;have d2:decide (k<q)=false:=Zj hkq;generalize zgz (dig (za x)) (dig (za y)) k=dg at *;generalize dig (za x) k=dx at *;generalize zd2 (dig (za x)) (dig (za y)) k=cy at *;obtain⟨HL,HH⟩:=hd2 (zpx hdx hcy) (zov hdx hcy);clear hb hz hdy;exact Ey
  ·obtain rfl:p=k:=Ya;have hU:=HBl.out.u32s (fun i hi=>by
    unfold zdU
    split
    ·exact ziK (zJ (zv x) _) (zJ (zv y) _)
    ·exact(by decide:(0:Nat)<4294967296)) Ya
   have HT:=zY p Yc hU (HDf.out.trans HCom.out);simp only[Zv,Zav]at HT;have HT2:=hid HT;clear hb hqp hU HT
   go_wp2_with fail
   refine HT2.out.mono ?_
   rintro e w' ⟨⟨a6,c6,rfl,h8,h9⟩,rfl⟩;obtain⟨H8,H9⟩:=hd2 h8 h9;clear HT2 h8 h9;go_wp2
   go_ret2
   exact⟨a6,c6,rfl,H8.out,H9.out,HBr.out⟩
