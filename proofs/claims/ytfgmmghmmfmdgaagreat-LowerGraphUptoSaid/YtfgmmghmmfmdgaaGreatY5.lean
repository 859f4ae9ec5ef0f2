/-
  Contracts: NatD, NatE, NatF, NatG, NatH.
-/
import Derived.Test.YtfgmmghmmfmdgaaGreatY4
import Derived.Laws.Bits64b
import Derived.Test.YtfgmmghmmfmdgaaGreatY0
set_option linter.all false
set_option maxRecDepth 100000
set_option maxHeartbeats 3200000
namespace Go.Proofs.YtfgmmghmmfmdgaaGreat
open Go.RowKit
open Go.Lib (hid)
variable {P:Prop} {w w':World} {g d k j a b r c off p:Nat} {l lv:List Nat}
theorem TO(h:P:=by
 go_wp2;go_roundw
 case rel=>exact⟨q-1,r+dig lv (n-1),by rw[EQ1.out],by rw[ER1.out],by have:=HE.out;omega,X5,G2.out,G3.out,HWn.out _⟩
 case measure=>have:=G1.out;simp[intOf];omega
):P:=h
theorem TP(h:P:=by simp[Zbs,List.map_const']):P:=h
theorem EE(h:P:=by rw[IntKind.wrap_u64,IntKind.wrap_u64];split<;>omega):P:=h
theorem EK(h:P:=by rw[BitVec.ofInt_natCast,BitVec.toNat_ofNat];exact Zaz Ya):P:=h
theorem EQ(h:P:=by rw[Zq h1,h1];unfold zdD;rw[Zq Ya,ZaD,zaP hlt]):P:=h
theorem Ic(h:P:=by rw[show((q:Int)*(dig lv (n-2):Int))=((q*dig lv (n-2):Nat):Int)from Yd,IntKind.wrap_u64];omega):P:=h
theorem Blk.of_own{base E n:Nat}{f:Nat->Nat}(h:w.ownsRow base E 1 (.slice (some ⟨g,0,none⟩) n n) n ((List.range n).map fun x=>Value.int .u32 (f x:Int))):Blk w g n f E:=by
 rcases h.2 with⟨h0,_⟩|⟨g',cap,cur,he,hb,hg,hnc,hcm,hcs,htake⟩
 ·cases h0
 ·cases he;have hc:cur=znu n f:=by
   unfold znu;rw[<- htake,ZQ Yj]
  unfold Blk;rw[hg,hc]
theorem zdU(a b:Nat)(ha:a<4294967296)(hb:b<4294967296):bits .or .u32 (a:Int) (b:Int)=((a ||| b:Nat):Int):=by
 have hx:a ||| b<2^32:=Nat.or_lt_two_pow Ya Ya
 have h1:(BitVec.ofInt 32 (a:Int)).toNat=a:=EK;have h2:(BitVec.ofInt 32 (b:Int)).toNat=b:=EK;show IntKind.u32.wrap ((BitVec.ofInt 32 (a:Int) ||| BitVec.ofInt 32 (b:Int)).toNat:Int)=_
 rw[BitVec.toNat_or,h1,h2,IntKind.wrap_u32];omega
theorem zhH(hd:d<4294967296)(hk:k<32):IntKind.u64.wrap ((d:Int)*2^k)=((d*2^k:Nat):Int):=by
 have e:((d:Int)*2^k)=((d*2^k:Nat):Int):=Yd;have h1:2^k<=2^31:=ZE Ya Ya;have h2:d*2^k<=4294967295*2147483648:=Z8 Ya h1;rw[e,IntKind.wrap_u64];omega
theorem zn3{f:Nat->Nat}(hf:∀i,f i<4294967296)(hk:k<32):bits .or .u32 (zji f k j:Int) (IntKind.u64.wrap ((f j:Int)*2^k)%4294967296)=((zmw f k j:Nat):Int):=by
 have h1:=zh1 (k:=k) hf j;have h2:2^k<=2^31:=ZE Ya Ya;rw[zhH (hf j) hk,show((f j*2^k:Nat):Int)%4294967296=((f j*2^k%4294967296:Nat):Int)from Ya,zdU _ _ Ya Ya]
 congr 1
 unfold zmw;rw[zgz h1 (by rw[zpJ hk];exact Nat.mul_mod_left _ _),Zbw]
theorem zm3{f:Nat->Nat}(hf:∀i,f i<4294967296)(hk:k<32):IntKind.u64.wrap ((f j:Int)*2^k)/4294967296%4294967296=((zji f k (j+1):Nat):Int):=by
 have h1:=zh1 (k:=k) hf (j+1);have h2:2^k<=2^31:=ZE Ya Ya;rw[zhH (hf j) hk];simp only[zji]at *;omega
def zed(f:Nat->Nat)(k i:Nat):Nat->Nat:=fun j=>if j<i then zmw f k j else if j=i then zji f k i else 0
theorem zlG(f:Nat->Nat)(k:Nat):zed f k 0=fun _=>0:=by
 funext j;unfold zed;rw[Zh Ya];split<;>rfl
theorem zlu(f:Nat->Nat)(k i:Nat):zed f k (i+1)=fun j=>if j=i+1 then zji f k (i+1)else if j=i then zmw f k i else zed f k i j:=by
 funext j;unfold zed
 by_cases h1:j=i+1
 ·subst h1;rw[Zh Ya,Zq rfl,Zq rfl]
 ·rw[Zh h1,Zh h1]
  by_cases h2:j=i
  ·subst h2;rw[Zq Ya,Zq rfl]
  ·rw[Zh h2]
   by_cases h3:j<i
   ·rw[Zq Ya,Zq h3]
   ·rw[Zh Ya,Zh h3,Zh h2]
theorem zm4(hl:Lim l)(hk:k<32):∀j,j<l.length+1->zed (dig l) k l.length j=zaw (zo l*2^k) j:=by
 have hv:zx (zed (dig l) k l.length) (l.length+1)=zo l*2^k:=by
  simp only[zx];rw[zac (n:=l.length) (f:=zed (dig l) k l.length) (g:=zmw (dig l) k) (fun j hj=>by unfold zed;rw[Zq hj])];have:zed (dig l) k l.length l.length=zji (dig l) k l.length:=KK;rw[this];exact zte (dig l) k l.length
 intro j hj;rw[<- hv,zdm ?_ hj];intro i;unfold zed
 split
 ·exact zqx (fun j=>zD hl j) hk i
 ·split
  ·have:=zh1 (f:=dig l) (k:=k) (fun j=>zD hl j) l.length;have h2:2^k<=2^32:=ZE Ya Ya;omega
  ·omega
theorem zrL{a:Option Addr}(c k:Nat)(hk:k<32)(h:zt w a l)(hr:l.length<=17592186044416):
  Calls Tryz.prog 171 #[.slice a l.length c,.int .i64 (k:Int)] w fun e w'=>e=.returned (.slice (some ⟨w.heap.size,0,none⟩) (l.length+1) (l.length+1))/\Blk w' w.heap.size (l.length+1) (zaw (zo l*2^k)) 109/\Below w.heap.size w w':=by
 obtain⟨i0,hi,hz0,hz1,hz2⟩:=info_parts Tryz.infoU32;obtain⟨HU,HL⟩:=hd2 h h.lim;clear h
 go_enter Tryz.func171,Tryz.ntmps171
 go_wp2_with (at_make;refine wpList_make_full _ rfl _ _ 49 rfl w.heap.size 109 i0 (.int .u32 0) 1 Tryz.underlying49 hi hz0 hz1 _ _ _ _ (l.length+1) rfl rfl Ya Ya ?b2 ?b3 (Za _) ?_)
 case b2=>rw[hz2];omega
 case b3=>unfold maxLen;omega
 intro w0 hown0 hgrow0;have HB0:Hid (Blk w0 w.heap.size (l.length+1) (zed (dig l) k 0) 109):=by
  refine Blk.of_own (base:=w.heap.size) ?_
  have e:(madeCells #[Value.int IntKind.u32 0] (l.length+1)).toList=(List.range (l.length+1)).map fun x=>Value.int .u32 (zed (dig l) k 0 x:Int):=by
   rw[zlG];simp[Zbs,List.map_const']
  rw[<- e];exact hown0
 have hb0:Below w.heap.size w w0:=(Zg _ _).grown hgrow0 (Za _) (fun k h=>YG);clear hown0 hgrow0 hz0 hz1 hz2 hi;go_wp2
 go_loopw [15] (fun i wr=>∃j:Nat,j<=l.length/\i=.int .i64 j/\Hid (Blk wr w.heap.size (l.length+1) (zed (dig l) k j) 109)/\Below w.heap.size w wr) (fun i _=>l.length-(intOf i).toNat)
 case atStart=>exact⟨0,Zs _,rfl,HB0,hb0⟩
 case round=>
  clear HB0 hb0;obtain⟨j,hj,rfl,HB,hb⟩:=hrel
  by_cases hlt:j<l.length
  ·obtain⟨p1,o1,rfl,hp1,q1⟩:=(HU.out.below hb).pick hlt;have d0:=HB.out.cell (x:=j) Ya;have d1:=HB.out.cell (x:=j+1) Ya;rw[show zed (dig l) k j j=zji (dig l) k j from KK]at d0;have f0:=HB.out.free j;have f1:=HB.out.free (j+1);have hdl:=zD HL.out j;have hdg:∀i,dig l i<4294967296:=fun i=>zD HL.out i
   obtain⟨E0,E1⟩:=hd2 (zn3 (j:=j) hdg hk) (zm3 (j:=j) hdg hk);clear hdg;go_wp2;go_roundw
   case rel=>
    refine⟨j+1,hlt,Yg,?_,(hb.setCell (Za _) _).setCell (Za _) _⟩
    rw[E0.out,E1.out];unfold Hid;rw[zlu];exact(HB.out.set j (zmw (dig l) k j)).set (j+1) (zji (dig l) k (j+1))
   case measure=>simp[intOf];omega
  ·obtain rfl:j=l.length:=Ya;go_wp2;go_ret;exact⟨rfl,HB.out.congr (zm4 HL.out hk),hb⟩
def zee(l:List Nat)(d k:Nat):Nat->Nat:=fun j=>if k<=j then(zfD l (j+1)%d*4294967296+dig l j)/d else 0
theorem zjx(l:List Nat)(d k:Nat):zee l d k=fun j=>if j=k then(zfD l (k+1)%d*4294967296+dig l k)/d else zee l d (k+1) j:=by
 funext j;unfold zee
 by_cases h:j=k
 ·subst h;rw[Zq (Za _),Zq rfl]
 ·rw[Zh h]
  by_cases h2:k<=j
  ·rw[Zq h2,Zq Ya]
  ·rw[Zh h2,Zh Ya]
theorem zf0{R:Nat}(hR:R<4294967296)(hd:d<4294967296):bits .or .u64 ((R:Int)*4294967296) (d:Int)=((R*4294967296+d:Nat):Int):=by
 rw[show((R:Int)*4294967296)=((R*4294967296:Nat):Int)from Ya,bits_or_u64_nat _ _ Ya Ya]
 congr 1
 exact zpp (k:=32) Ya Ya
theorem zeY(a b:Nat):(a:Int).tmod (b:Int)=((a%b:Nat):Int):=by rw[Int.tmod_eq_emod_of_nonneg Ya];simp
theorem zgD(a b:Nat):(a:Int).tdiv (b:Int)=((a/b:Nat):Int):=by rw[Int.tdiv_eq_ediv_of_nonneg Ya];simp
theorem zrN{w:World}{a:Option Addr}{l:List Nat}(c d:Nat)(hd0:0<d)(hd:d<4294967296)(h:zt w a l)(hr:l.length<=17592186044416):
  Calls Tryz.prog 169 #[.slice a l.length c,.int .u32 (d:Int)] w fun e w'=>∃a1 c1 a2 c2,e=.returned (.tuple #[.slice a1 (ze (zo l/d)).length c1,.slice a2 (ze (zo l%d)).length c2])/\
   (ze (zo l/d)).length<=c1/\(ze (zo l%d)).length<=c2/\zt w' a1 (ze (zo l/d))/\zt w' a2 (ze (zo l%d))/\Below w.heap.size w w':=by
 obtain⟨i0,hi,hz0,hz1,hz2⟩:=info_parts Tryz.infoU32;obtain⟨HU,HL⟩:=hd2 h h.lim;clear h
 go_enter Tryz.func169,Tryz.ntmps169
 go_wp2_with (at_make;refine wpList_make_full _ rfl _ _ 49 rfl w.heap.size 109 i0 (.int .u32 0) 1 Tryz.underlying49 hi hz0 hz1 _ _ _ _ l.length rfl rfl Ya Ya ?b2 ?b3 (Za _) ?_)
 case b2=>rw[hz2];omega
 case b3=>unfold maxLen;omega
 intro w0 hown0 hgrow0;have HB0:Hid (Blk w0 w.heap.size l.length (zee l d l.length) 109):=by
  refine Blk.congr (f:=fun _=>0) (Blk.of_own (base:=w.heap.size) ?_) (fun i hi=>by unfold zee;rw[Zh Ya])
  have e:(madeCells #[Value.int IntKind.u32 0] l.length).toList=(List.range l.length).map fun _=>Value.int .u32 ((0:Nat):Int):=TP
  rw[<- e];exact hown0
 have hb0:Below w.heap.size w w0:=(Zg _ _).grown hgrow0 (Za _) (fun k h=>YG);clear hown0 hgrow0 hz0 hz1 hz2 hi;go_wp2
 go_loopw [7,8] (fun r i wr=>∃k R:Nat,∃I:Int,k<=l.length/\I+1=(k:Int)/\i=.int .i64 I/\r=.int .u64 (R:Int)/\R<d/\Hid (R=zfD l k%d)/\Hid (Blk wr w.heap.size l.length (zee l d k) 109)/\Below w.heap.size w wr) (fun _ i _=>(intOf i+1).toNat)
 case atStart=>exact⟨l.length,0,_,Za _,Ya,rfl,rfl,hd0,by unfold Hid;rw[zib (Za _),Nat.zero_mod],HB0,hb0⟩
 case round=>
  clear HB0 hb0;obtain⟨k,R,I,hk,hI,rfl,rfl,hR,HR,HB,hb⟩:=hrel
  cases k with
  | zero=>
   obtain rfl:I= -1:=Ya;have hll:((List.range l.length).map (zee l d 0)).length=l.length:=Yd;have hU:=HB.out.u32s (fun i _=>by unfold zee;rw[Zq (Zs _)];exact zkM HL.out hd0) Ya;have hv:zo ((List.range l.length).map (zee l d 0))=zo l/d:=by
    rw[zby,<- zl8 hd0 (l:=l)];exact zac (fun i _=>by unfold zee;rw[Zq (Zs _)])
   have hT:=zU l.length Ya hU hv;rw[hll]at hT;have HT:=hid hT;have HR2:Hid (R=zo l%d):=by have:=HR.out;rwa [ziQ]at this
   clear hll hU hv hT
   go_wp2_with fail
   refine HT.out.mono ?_
   rintro e w' ⟨⟨a1,c1,rfl,h1,h2⟩,rfl⟩;obtain⟨HH,HO⟩:=hd2 h2 (nOf R Ya wr);clear h2
   go_wp2_with fail
   refine HO.out.mono ?_
   rintro e w' ⟨a2,c2,rfl,h3,h4,h5⟩;have hz:R=zo l%d:=HR2.out;have HZ:=hid hz;clear hz;go_wp2
   go_ret2
   rw[HZ.out]at h3 h4;exact⟨a1,c1,a2,c2,by rw[HZ.out];rfl,h1,h3,HH.out.below h5,h4,hb.trans (h5.mono hb.size)⟩
  | succ m=>
   obtain rfl:I=(m:Int):=Ya;obtain⟨p1,o1,rfl,hp1,q1⟩:=(HU.out.below hb).pick (show m<l.length from Ya);have hm:m<l.length:=Ya;have hdm:=zD HL.out m;have d0:=HB.out.cell (x:=m) hm;have f0:=HB.out.free m;have E:=zf0 (R:=R) (d:=dig l m) Ya hdm;have hs:=zhe hd0 hm;rw[<- HR.out]at hs;have hq:=zkM (i:=m) HL.out hd0;rw[<- HR.out]at hq;have T1:=hid (show(bits .or .u64 ((R:Int)*4294967296) (dig l m:Int)).tmod (d:Int)=(((R*4294967296+dig l m)%d:Nat):Int) by rw[E,zeY]);have T2:=hid (show IntKind.u64.wrap ((bits .or .u64 ((R:Int)*4294967296) (dig l m:Int)).tdiv (d:Int))%4294967296=(((R*4294967296+dig l m)/d:Nat):Int) by
    rw[E,zgD,IntKind.wrap_u64];generalize(R*4294967296+dig l m)/d=Q at hq⊢;omega)
   have HS:=hid hs;clear E hs hq;go_wp2;go_roundw
   case rel=>
    refine⟨m,(R*4294967296+dig l m)%d,_,Ya,Ya,rfl,by rw[T1.out],Z1 _ hd0,HS.out.2.symm,?_,hb.setCell (Za _) _⟩
    rw[T2.out];unfold Hid;rw[zjx,<- HR.out];exact HB.out.set m _
   case measure=>simp[intOf]
theorem zlV(hl:Lim l)(i:Nat):zo (l.drop i)=zo l/4294967296^i:=by
 rcases Zan i l.length with h|h
 ·obtain⟨m,hm⟩:∃m,l.length=i+m:=⟨l.length-i,Ya⟩
  have e:zo l=zx (dig l) i+zx (fun j=>dig l (i+j)) m*4294967296^i:=by
   unfold zo;rw[hm,za9]
  rw[e,Nat.add_mul_div_right _ _ (zbG i),ZaA (zbp (fun j _=>zD hl j)),ZO];unfold zo;rw[Zbg,hm,ZaD];exact zac (fun j _=>by unfold dig;simp[Zf])
 ·rw[List.drop_of_length_le h,zcj,ZaA (Zd (zcP hl) (ZE Ya h))]
theorem zmZ(v k:Nat):v/2^k=v/4294967296^(k/32)/2^(k%32):=by
 rw[Zbb,show(4294967296:Nat)=2^32 from Yb,<- Nat.pow_mul,<- Zaf,ZaJ]
def znO(f:Nat->Nat)(j:Nat):Nat->Nat:=fun i=>if i<j then f i else 0
theorem ziS(f:Nat->Nat)(j:Nat):znO f (j+1)=fun i=>if i=j then f j else znO f j i:=by
 funext i;unfold znO
 by_cases h:i=j
 ·subst h;rw[Zq Ya,Zq rfl]
 ·rw[Zh h]
  by_cases h2:i<j
  ·rw[Zq h2,Zq Ya]
  ·rw[Zh h2,Zh Ya]
def zpB(l:List Nat)(k:Nat):Nat->Nat:=fun i=>(dig l i+dig l (i+1)*4294967296)/2^k%4294967296
theorem zrd(ha:a<4294967296)(hb:b<4294967296):bits .or .u64 (a:Int) ((b:Int)*4294967296)/2^r%4294967296=(((a+b*4294967296)/2^r%4294967296:Nat):Int):=by
 have e:bits .or .u64 (a:Int) ((b:Int)*4294967296)=((a+b*4294967296:Nat):Int):=by
  rw[show((b:Int)*4294967296)=((b*4294967296:Nat):Int)from Ya,bits_or_u64_nat _ _ Ya Ya]
  congr 1
  exact zgz (k:=32) Ya Ya
 rw[e];generalize a+b*4294967296=X;simp
theorem zp8:((a:Int)/2^r%4294967296)=(((a+0*4294967296)/2^r%4294967296:Nat):Int):=Yd
theorem zta{a:Option Addr}{v:Nat}(c k:Nat)(hk:k<=1048576)(hc:l.length<=c)(h:zt w a l)(hv:zo l=v)(hr:l.length<=17592186044416):
  Calls Tryz.prog 174 #[.slice a l.length c,.int .i64 (k:Int)] w fun e w'=>∃a1 c1,e=.returned (.tuple #[.slice a1 (ze (v/2^k)).length c1,.int .i64 0])/\(ze (v/2^k)).length<=c1/\zt w' a1 (ze (v/2^k))/\Below w.heap.size w w':=by
 have HT:=hid (zU c hc h hv);have hle:(ze v).length<=l.length:=by rw[<- hv];exact zz h.lim
 clear h hv hc
 go_enter Tryz.func174,Tryz.ntmps174
 go_wp2_with fail
 refine HT.out.mono ?_
 rintro e w' ⟨⟨a1,c1,rfl,hc1,hU⟩,rfl⟩;clear HT;have HSp:=hid (zmZ v k)
 by_cases hq:(ze v).length<=k/32
 ·have hz:v/2^k=0:=by
   rw[HSp.out,ZaA (Zd (zaS v) (ZE Ya hq)),Nat.zero_div]
  have HZ:=hid hz;clear hz;go_wp2
  go_ret2
  exact⟨none,0,by rw[HZ.out,zr];rfl,by rw[HZ.out,zr];simp,by rw[HZ.out,zr];exact zt.nil _ _,Zg _ _⟩
 ·obtain⟨p1,o1,rfl,hp1,_⟩:=hU.pick (show 0<(ze v).length from Ya);have hne:¬ c1=k/32:=Ya;have hUd:=hU.drop (k/32);have hLv:zo ((ze v).drop (k/32))=v/4294967296^(k/32):=by rw[zlV (zq v),zi]
  have hlen:(ze v).length-k/32=((ze v).drop (k/32)).length:=Yd;generalize(ze v).drop (k/32)=LD at *;have hLD:LD.length<=17592186044416:=Ya;obtain⟨HL,HLv,HU⟩:=hd3 hUd.lim hLv hUd;obtain⟨i0,hi,hz0,hz1,hz2⟩:=info_parts Tryz.infoU32;clear hU hUd hLv
  go_wp2_with (at_make;refine wpList_make_full _ rfl _ _ 49 rfl w.heap.size 109 i0 (.int .u32 0) 1 Tryz.underlying49 hi hz0 hz1 _ _ _ _ LD.length rfl rfl Ya Ya ?b2 ?b3 (Za _) ?_)
  case b2=>rw[hz2];omega
  case b3=>unfold maxLen;omega
  intro w0 hown0 hgrow0;have HB0:Hid (Blk w0 w.heap.size LD.length (znO (zpB LD (k%32)) 0) 109):=by
   refine Blk.congr (f:=fun _=>0) (Blk.of_own (base:=w.heap.size) ?_) (fun i hi=>by unfold znO;rw[Zh Ya])
   have e:(madeCells #[Value.int IntKind.u32 0] LD.length).toList=(List.range LD.length).map fun _=>Value.int .u32 ((0:Nat):Int):=TP
   rw[<- e];exact hown0
  have hb0:Below w.heap.size w w0:=(Zg _ _).grown hgrow0 (Za _) (fun k h=>YG);clear hown0 hgrow0 hz0 hz1 hz2 hi;go_wp2
  go_loopw [32] (fun i wr=>∃j:Nat,j<=LD.length/\i=.int .i64 j/\Hid (Blk wr w.heap.size LD.length (znO (zpB LD (k%32)) j) 109)/\Below w.heap.size w wr) (fun i _=>LD.length-(intOf i).toNat)
  case atStart=>exact⟨0,Zs _,rfl,HB0,hb0⟩
  case round=>
   clear HB0 hb0;obtain⟨j,hj,rfl,HB,hb⟩:=hrel
   by_cases hlt:j<LD.length
   ·obtain⟨p2,o2,he,hp2,q1⟩:=(HU.out.below hb).pick hlt;obtain⟨rfl,rfl⟩:p1=p2/\o1+k/32=o2:=by cases he;exact⟨rfl,rfl⟩
    have d0:=HB.out.cell (x:=j) hlt;have f0:=HB.out.free j;have hdl:=zD HL.out j;clear he
    by_cases hlt2:j+1<LD.length
    ·obtain⟨p2,o2,he,_,q2⟩:=(HU.out.below hb).pick hlt2;obtain⟨rfl,rfl⟩:p1=p2/\o1+k/32=o2:=by cases he;exact⟨rfl,rfl⟩
     have hdl2:=zD HL.out (j+1);clear he;have HE:=hid (zrd (r:=k%32) hdl hdl2);go_wp2;go_roundw
     case rel=>
      refine⟨j+1,hlt,Yg,?_,hb.setCell (Za _) _⟩
      rw[HE.out];unfold Hid;rw[ziS];exact HB.out.set j _
     case measure=>simp[intOf];omega
    ·have hz:=zcu (l:=LD) (i:=j+1) Ya;obtain⟨HE,HZ⟩:=hd2 (zp8 (a:=dig LD j) (r:=k%32)) hz;clear hz;go_wp2;go_roundw
     case rel=>
      refine⟨j+1,hlt,Yg,?_,hb.setCell (Za _) _⟩
      rw[HE.out];unfold Hid;rw[ziS];have e:zpB LD (k%32) j=(dig LD j+0*4294967296)/2^(k%32)%4294967296:=by unfold zpB;rw[HZ.out]
      rw[e];exact HB.out.set j _
     case measure=>simp[intOf];omega
   ·obtain rfl:j=LD.length:=Ya;have hll:((List.range LD.length).map (znO (zpB LD (k%32)) LD.length)).length=LD.length:=Yd;have hU2:=HB.out.u32s (fun i hi=>by unfold znO zpB;rw[Zq hi];exact Z1 _ Ya) Ya;have hv2:zo ((List.range LD.length).map (znO (zpB LD (k%32)) LD.length))=v/2^k:=by
     rw[zby,HSp.out,<- HLv.out,<- zqI HL.out (show k%32<32 from Ya)];exact zac (fun i hi=>by unfold znO zpB;rw[Zq hi])
    have hT:=zU LD.length Ya hU2 hv2;rw[hll]at hT;have HT:=hid hT;clear hll hU2 hv2 hT
    go_wp2_with fail
    refine HT.out.mono ?_
    rintro e w' ⟨⟨a2,c2,rfl,h1,h2⟩,rfl⟩;have HH:=hid h2;clear h2;go_wp2
    go_ret2
    exact⟨a2,c2,rfl,h1,HH.out,hb⟩
theorem Below.drewN_refl(w:World)(n:Nat):Below w.heap.size w (w.drewN n):=⟨rfl,rfl,rfl,Za _,fun _ _=>rfl⟩
theorem zmD{a b:Option Addr}{lu:List Nat}(c d n:Nat)(hn:lv.length=n)(hm:lu.length=n+1)(hs:n<=17592186044416)(hu:zt w a lu)(hv:zt w b lv)(hK:zdo (dig lu) (dig lv) n):
  Calls Tryz.prog 173 #[.slice a (n+1) c,.slice b n d] w fun e w'=>(∃q:Nat,e=.returned (.int .u64 (q:Int))/\zx (dig lu) (n+1)/zx (dig lv) n<=q/\q<=zx (dig lu) (n+1)/zx (dig lv) n+1/\q<=4294967296)/\Below w.heap.size w w':=by
 have hn2:=hK.n2;obtain⟨pu,ou,rfl,hpu,cu⟩:=hu.open (by intro h;rw[h]at hm;simp at hm);obtain⟨pv,ov,rfl,hpv,cv⟩:=hv.open JL;have u0:=cu n Ya;have u1:=cu (n-1) Ya;have u2:=cu (n-2) Ya;have v1:=cv (n-1) Ya;have v2:=cv (n-2) Ya;have b0:=hK.ul n;have b1:=hK.ul (n-1);have b2:=hK.ul (n-2);have b3:=hK.vl (n-1);have b4:=hK.vl (n-2);have b5:=hK.norm;have HK:=hid hK;have E0:bits .or .u64 ((dig lu n:Int)*4294967296) (dig lu (n-1):Int)=((zhK (dig lu) n:Nat):Int):=zf0 b0 b1;have hT:zhK (dig lu) n<18446744073709551616:=by unfold zhK;omega
 have z1:((dig lv (n-1):Int)==0)=false:=bn0 Ya;have z2:¬ dig lv (n-1)=0:=Ya;have D1:=zgD (zhK (dig lu) n) (dig lv (n-1));have D2:=zeY (zhK (dig lu) n) (dig lv (n-1));have HS:=hid hK.start;clear hK hu hv cu cv hn hm;generalize hQd:zx (dig lu) (n+1)/zx (dig lv) n=Q at *;have HQd:=hid hQd;clear hQd;generalize hT':zhK (dig lu) n=tp at *;have HT:=hid hT';clear hT';generalize hq0:tp/dig lv (n-1)=q0 at *;generalize hr0:tp%dig lv (n-1)=r0 at *;obtain⟨HQ0,HR0⟩:=hd2 hq0 hr0;clear hq0 hr0;have hst2:q0<=4294967297:=HS.out.2;have hr1:r0<4294967296:=by have:=Z1 tp (show 0<dig lv (n-1)from Ya);have:=HR0.out;omega
 have HST:Hid (Q<=q0):=HS.out.1;have HEQ:Hid (q0*dig lv (n-1)+r0=tp):=by
  have:=ZaJ tp (dig lv (n-1));rw[HQ0.out,HR0.out,Zz]at this;exact this
 have HWq:IntKind.u64.wrap (q0:Int)=(q0:Int):=by rw[IntKind.wrap_u64];omega
 go_enter Tryz.func173,Tryz.ntmps173
 go_wp2
 go_quiet (fail)
 go_wp2
 go_quiet (fail)
 go_wp2
 go_loopw [7,8] (fun a b wr=>∃q r:Nat,a=.int .u64 (q:Int)/\b=.int .u64 (r:Int)/\r<4294967296/\q<=4294967297/\Hid (q*dig lv (n-1)+r=tp)/\Hid (Q<=q)/\Hid (∃n,wr=w.drewN n)) (fun a _ _=>(intOf a).toNat)
 case atStart=>exact⟨q0,r0,rfl,rfl,hr1,hst2,HEQ,HST,zjV _ _ _⟩
 case round=>
  clear HWq;obtain⟨q,r,rfl,rfl,hr,hq,Heq,Hge,HWr⟩:=hrel;clear hT hst2 HST HEQ HQ0 HR0 HS D1 D2 E0 z1 z2 hr1;have HQ:=hid hq;clear hq;have HWn:Hid (∀k,∃n,wr.drewN k=w.drewN n):=fun k=>by obtain⟨n,hn⟩:=HWr.out;rw[hn];exact zjV w n k
  have HBl:Hid (∀k,Below w.heap.size w (wr.drewN k)):=fun k=>by obtain⟨n,hn⟩:=HWn.out k;rw[hn];exact Below.drewN_refl w n
  obtain⟨n',hn'⟩:=HWr.out;have U2:wr.cell? ⟨pu,ou+(n-2),none⟩=some (.int .u32 (dig lu (n-2):Int)):=by rw[hn'];exact u2
  have V1:wr.cell? ⟨pv,ov+(n-1),none⟩=some (.int .u32 (dig lv (n-1):Int)):=by rw[hn'];exact v1
  have V2:wr.cell? ⟨pv,ov+(n-2),none⟩=some (.int .u32 (dig lv (n-2):Int)):=by rw[hn'];exact v2
  clear hn' u0 u1 u2 v1 v2
  -- what the round does where the test says yes
  have hround:Hid (∀(hgo:Q<q),1<=q/\(q-1)*dig lv (n-1)+(r+dig lv (n-1))=tp/\Q<=q-1):=by
   intro hgo
   refine⟨Ya,?_,Ya⟩
   have h1:=Heq.out;obtain⟨p,rfl⟩:∃p,q=p+1:=⟨q-1,Ya⟩
   rw[Zal];rw[ZI,Zah]at h1;omega
  have hgo:Hid (4294967296<=q∨r*4294967296+dig lu (n-2)<q*dig lv (n-2)->Q<q):=by
   intro h
   rcases h with h|h
   ·have:=HK.out.quo_lt;rw[HQd.out]at this;omega
   ·have:=HK.out.too_great (by rw[HT.out];exact Heq.out) h;rwa [HQd.out]at this
  by_cases hyes:4294967296<=q∨r*4294967296+dig lu (n-2)<q*dig lv (n-2)
  ·obtain⟨g1,g2,g3⟩:=hround.out (hgo.out hyes);have hq1:(1:Int)<=(q:Int):=Ya;have hq2:(q:Int)<=4294967297:=X5;have eq1:(q:Int)-1=((q-1:Nat):Int):=Ya;have er1:(r:Int)+(dig lv (n-1):Int)=((r+dig lv (n-1):Nat):Int):=Ya;obtain⟨EQ1,ER1,G1,G2,G3⟩:=hd5 eq1 er1 g1 g2 g3;clear eq1 er1 g1 g2 g3 hround hgo;have HN:=hid b5;clear b5
   -- the test of the round's end
   have hbreak:4294967296<=r+dig lv (n-1)->Hid (q-1<=Q+1):=by
    intro h;rw[<- HQd.out]
    refine HK.out.good (q:=q-1) (r:=r+dig lv (n-1)) (by rw[HT.out];exact G2.out) ?_ X5
    have h2:(q-1)*dig lv (n-2)<=4294967296*dig lv (n-2):=Zp _ X5;have h3:4294967296*dig lv (n-2)<=4294967296*4294967296:=ZT _ Ya;have h4:4294967296*4294967296<=(r+dig lv (n-1))*4294967296:=Zp _ h;omega
   have HBr:=hid hbreak;clear hbreak
   by_cases hbig:4294967296<=q
   ·have t1:decide ((4294967296:Int)<=(q:Int))=true:=Xb;clear hbig hyes
    by_cases hend:4294967296<=r+dig lv (n-1)
    ·have t2:decide ((4294967296:Int)<=(r:Int)+(dig lv (n-1):Int))=true:=Xb;have HB:=HBr.out hend;clear hend;go_wp2
     go_quiet (fail)
     clear t1;go_wp2;go_ret;exact⟨⟨q-1,zaH EQ1.out,G3.out,HB.out,X5⟩,HBl.out _⟩
    ·have t2:decide ((4294967296:Int)<=(r:Int)+(dig lv (n-1):Int))=false:=YI;have HE:=hid hend;clear hend;go_wp2
     go_quiet (fail)
     clear t1;exact TO
   ·have t1:decide ((4294967296:Int)<=(q:Int))=false:=YI;have hgt:r*4294967296+dig lu (n-2)<q*dig lv (n-2):=hyes.resolve_left hbig;have E1:bits .or .u64 ((r:Int)*4294967296) (dig lu (n-2):Int)=((r*4294967296+dig lu (n-2):Nat):Int):=zf0 hr b2;have hbd:q*dig lv (n-2)<18446744073709551616:=Kn;have E2:IntKind.u64.wrap ((q:Int)*(dig lv (n-2):Int))=((q*dig lv (n-2):Nat):Int):=Ic;generalize q*dig lv (n-2)=A at *;generalize r*4294967296+dig lu (n-2)=B at *;have t3:decide (B<A)=true:=by rw[Zy];exact hgt
    have t4:decide ((B:Int)<(A:Int))=true:=Xb;clear hbig hyes hbd
    by_cases hend:4294967296<=r+dig lv (n-1)
    ·have t2:decide ((4294967296:Int)<=(r:Int)+(dig lv (n-1):Int))=true:=Xb;have HB:=HBr.out hend;clear hend;go_wp2
     go_quiet (fail)
     clear t1 t3 t4 E1 E2;go_wp2;go_ret;exact⟨⟨q-1,zaH EQ1.out,G3.out,HB.out,X5⟩,HBl.out _⟩
    ·have t2:decide ((4294967296:Int)<=(r:Int)+(dig lv (n-1):Int))=false:=YI;have HE:=hid hend;clear hend;go_wp2
     go_quiet (fail)
     clear t1 t3 t4 E1 E2;exact TO
  ·have hq3:q<4294967296:=Ya;have hle:q*dig lv (n-2)<=r*4294967296+dig lu (n-2):=Ya;have t1:decide ((4294967296:Int)<=(q:Int))=false:=YI;have hgood:=HK.out.good (by rw[HT.out];exact Heq.out) hle Ya;rw[HQd.out]at hgood;have HG:=hid hgood;have E1:bits .or .u64 ((r:Int)*4294967296) (dig lu (n-2):Int)=((r*4294967296+dig lu (n-2):Nat):Int):=zf0 hr b2;have hbd:q*dig lv (n-2)<18446744073709551616:=Kn;have E2:IntKind.u64.wrap ((q:Int)*(dig lv (n-2):Int))=((q*dig lv (n-2):Nat):Int):=Ic;clear hyes hgo hround hgood;generalize q*dig lv (n-2)=A at *;generalize r*4294967296+dig lu (n-2)=B at *;have t3:decide (B<A)=false:=YI;have t4:decide ((B:Int)<(A:Int))=false:=YI;have HQ3:=hid hq3;clear hbd hle hq3 b5;go_wp2
   go_quiet (fail)
   clear t1 t3 t4 E1 E2;go_wp2;go_ret;exact⟨⟨q,rfl,Hge.out,HG.out,by have:=HQ3.out;omega⟩,HBl.out _⟩
structure zfH (g:Nat) (w w':World):Prop where
 os:w'.os=w.os
 tape:w'.tape=w.tape
 output:w'.output=w.output
 size:w'.heap.size=w.heap.size
 block:∀k,k≠g->w'.heap[k]? =w.heap[k]?
theorem zfH.refl(g:Nat)(w:World):zfH g w w:=⟨rfl,rfl,rfl,rfl,fun _ _=>rfl⟩
theorem zfH.trans{a b c:World}(h:zfH g a b)(k:zfH g b c):zfH g a c:=
 ⟨k.os.trans h.os,k.tape.trans h.tape,k.output.trans h.output,k.size.trans h.size,fun i hi=>(k.block i hi).trans (h.block i hi)⟩
theorem zfH.setCell{a:World}(h:zfH g a w)(o:Nat)(u:Value):zfH g a (w.setCell ⟨g,o,none⟩ u):=
 h.trans ⟨rfl,rfl,rfl,by simp[World.setCell],fun k hk=>Zby _ _ _ _ hk⟩
theorem zfH.cell(h:zfH g w w'){p:Addr}(hp:p.block≠g):w'.cell? p=w.cell? p:=ZR (w:=w) (h.block p.block hp)
theorem zfH.u32s(h:zfH g w w')(hb:b≠g)(hu:zt w (some ⟨b,off,none⟩) l):zt w' (some ⟨b,off,none⟩) l:=by
 refine⟨hu.lim,hu.len,hu.row.imp id ?_⟩
 rintro⟨b',off',he,hs,hc⟩;cases he;exact⟨b,off,rfl,by rw[h.size];exact hs,fun j d hj=>(h.cell (p:=⟨b,off+j,none⟩) hb).trans (hc j d hj)⟩
theorem zfH.below{B:Nat}(h:zfH g w w')(hB:B<=g):Below B w w':=⟨h.os,h.tape,h.output,Zbq h.size.symm,fun k hk=>h.block k Ya⟩
def zdD(F:Nat->Nat)(off:Nat)(f:Nat->Nat)(k:Nat):Nat->Nat:=fun x=>if off<=x/\x<off+k then f (x-off)else F x
theorem zdR(F:Nat->Nat)(off:Nat)(f:Nat->Nat):zdD F off f 0=F:=by
 funext x;unfold zdD;rw[Zh Ya]
theorem zc5(F:Nat->Nat)(off:Nat)(f:Nat->Nat)(k:Nat):zdD F off f (k+1)=fun x=>if x=off+k then f k else zdD F off f k x:=by
 funext x;unfold zdD
 by_cases h:x=off+k
 ·subst h;rw[Zq Ya,Zq rfl,ZaD]
 ·rw[Zh h]
  by_cases h2:off<=x/\x<off+k
  ·rw[Zq Ya,Zq h2]
  ·rw[Zh Ya,Zh h2]
theorem zev(F:Nat->Nat)(off:Nat)(f:Nat->Nat)(k:Nat):zdD F off f k (off+k)=F (off+k):=by unfold zdD;rw[Zh Ya]
theorem zqq(ha:a<4294967296)(hp:p<4294967296)(hb:b<=1):
  IntKind.u64.wrap (IntKind.u64.wrap ((a:Int)-(p:Int))-(b:Int))%4294967296=((a+4294967296*(if a<b+p then 1 else 0)-(b+p):Nat):Int):=EE
theorem zoL(ha:a<4294967296)(hp:p<4294967296)(hb:b<=1):
  IntKind.u64.wrap (IntKind.u64.wrap ((a:Int)-(p:Int))-(b:Int))/9223372036854775808=((if a<b+p then 1 else 0:Nat):Int):=EE
theorem znW(ha:a<4294967296)(hc:c<4294967296)(hb:b<=1)(h:a<b+c):IntKind.u64.wrap (IntKind.u64.wrap ((a:Int)-(c:Int))-(b:Int))%4294967296=(((a+4294967296-(b+c))%4294967296:Nat):Int):=by
 rw[IntKind.wrap_u64,IntKind.wrap_u64];omega
theorem zmW(ha:a<4294967296)(hc:c<4294967296)(hb:b<=1)(h:a<b+c):(IntKind.u64.wrap (IntKind.u64.wrap ((a:Int)-(c:Int))-(b:Int))/9223372036854775808==0)=false:=by
 rw[Z7,IntKind.wrap_u64,IntKind.wrap_u64];omega
theorem zlR{C q:Nat}(hC:C<4294967296)(hq:q<=4294967296)(hd:d<4294967296):IntKind.u64.wrap ((C:Int)+IntKind.u64.wrap ((q:Int)*(d:Int)))=((C+q*d:Nat):Int):=by
 have h1:q*d<=4294967296*4294967295:=Z8 hq Ya;rw[show((q:Int)*(d:Int))=((q*d:Nat):Int)from Yd,IntKind.wrap_u64,IntKind.wrap_u64];generalize q*d=A at h1⊢;omega
theorem zp1{N T bv ov:Nat}{F u:Nat->Nat}(c d n q:Nat)(hB:Blk w g N F T)(hF:∀j,F j<4294967296)(hn:lv.length=n)(hN:off+n+1<=N)(hN2:N<=17592186044416)(hne:bv≠g)(hv:zt w (some ⟨bv,ov,none⟩) lv)
 (hu:∀j,u j=F (off+j))(hK:zdo u (dig lv) n)(hq:zx u (n+1)/zx (dig lv) n<=q)(hq1:q<=zx u (n+1)/zx (dig lv) n+1)(hqB:q<=4294967296):
  Calls Tryz.prog 172 #[.slice (some ⟨g,off,none⟩) (n+1) c,.slice (some ⟨bv,ov,none⟩) n d,.int .u64 (q:Int)] w fun e w'=>e=.returned (.int .u32 ((zx u (n+1)/zx (dig lv) n:Nat):Int))/\
   Blk w' g N (zdD F off (zaw (zx u (n+1)%zx (dig lv) n)) (n+1)) T/\zfH g w w':=by
 have hn2:=hK.n2;obtain⟨HU,HV,HB0,HK,HFl,HQa⟩:=hd6 hu hv hB hK hF hq;have HQb:=hid hq1;obtain⟨_,_,he,_,HC⟩:=hv.open JL;cases he;rw[hn]at HC;have HCv:=hid HC;clear hv hB hF hK hq hq1 HC hu
 go_enter Tryz.func172,Tryz.ntmps172
 go_wp2
 go_loopw [7,8,17] (fun cv bv i wr=>∃k C B:Nat,k<=n/\i=.int .i64 (k:Int)/\cv=.int .u64 (C:Int)/\bv=.int .u64 (B:Int)/\Hid (C=zbr q (dig lv) k)/\Hid (B=zfr u (dig lv) q k)/\
  Hid (Blk wr g N (zdD F off (zfP u (dig lv) q) k) T)/\zfH g w wr) (fun _ _ i _=>n-(intOf i).toNat)
 case atStart=>exact⟨0,0,0,Zs _,rfl,rfl,rfl,rfl,rfl,by unfold Hid;rw[zdR];exact HB0.out,zfH.refl _ _⟩
 case round=>
  clear HB0;obtain⟨k,C,B,hk,rfl,rfl,rfl,HCe,HBe,HB,hO⟩:=hrel
  by_cases hlt:k<n
  ·have c1:=HCv.out k hlt;rw[<- hO.cell (p:=⟨bv,ov+k,none⟩) hne]at c1;have c2:=HB.out.cell (x:=off+k) Ya;rw[zev,<- HU.out]at c2;have f2:=HB.out.free (off+k);have hC:C<4294967296:=Ji;have hBb:B<=1:=Vz;have hd:=HK.out.vl k;have hu:=HK.out.ul k;obtain⟨HO,E0⟩:=hd2 hO (zlR hC hqB hd);have hX:(C+q*dig lv k)%4294967296=zfR q (dig lv) k:=by rw[znV,HCe.out]
   have hX2:(C+q*dig lv k)/4294967296=zbr q (dig lv) (k+1):=by rw[zg8,HCe.out]
   have hpd:=zhQ q (dig lv) k;have L:=zqq (a:=u k) (p:=zfR q (dig lv) k) (b:=B) hu hpd hBb;have H:=zoL (a:=u k) (p:=zfR q (dig lv) k) (b:=B) hu hpd hBb;rw[show(u k+4294967296*(if u k<B+zfR q (dig lv) k then 1 else 0)-(B+zfR q (dig lv) k))=zfP u (dig lv) q k by rw[HBe.out];rfl]at L;rw[show(if u k<B+zfR q (dig lv) k then 1 else 0)=zfr u (dig lv) q (k+1) by rw[HBe.out];rfl]at H;obtain⟨HX,HX2,HL,HH⟩:=hd4 hX hX2 L H;clear hO hX hX2 hpd L H;go_wp2;go_roundw
   case rel=>
    have e1:(((C+q*dig lv k:Nat):Int)%4294967296)=((zfR q (dig lv) k:Nat):Int):=by rw[<- HX.out];omega
    have e2:(((C+q*dig lv k:Nat):Int)/4294967296)=((zbr q (dig lv) (k+1):Nat):Int):=by rw[<- HX2.out];omega
    refine⟨k+1,zbr q (dig lv) (k+1),zfr u (dig lv) q (k+1),hlt,Yg,?_,?_,rfl,rfl,?_,HO.out.setCell _ _⟩
    ·rw[E0.out,e2]
    ·rw[E0.out,e1,HH.out]
    ·rw[E0.out,e1,HL.out];unfold Hid;rw[zc5];exact HB.out.set (off+k) _
   case measure=>simp[intOf];omega
  ·obtain rfl:k=n:=Ya;have c2:=HB.out.cell (x:=off+k) Ya;rw[zev,<- HU.out]at c2;have f2:=HB.out.free (off+k);have hC:C<4294967296:=Ji;have hBb:B<=1:=Vz;have hu:=HK.out.ul k;have HO:=hid hO
   by_cases hs:B+C<=u k
   ·have hex:=HK.out.exact HQa.out HQb.out (by rw[<- HBe.out,<- HCe.out];exact hs);have hQ:=HK.out.quo_lt;obtain⟨HQl,HX⟩:=hd2 hQ hex;clear hO hex hQ;go_wp2;go_ret;obtain⟨x1,x2,x3⟩:=HX.out
    refine⟨zaH ?_,?_,HO.out.setCell _ _⟩
    ·have:=HQl.out;rw[<- x1]at this⊢;omega
    ·rw[<- HBe.out,<- HCe.out]at x3;have hb:=HB.out.set (off+k) 0;rw[show(u k:Int)-C-B=((0:Nat):Int)from Ya]
     refine hb.congr (fun x hx=>?_)
     have hlt:zx u (k+1)%zx (dig lv) k<4294967296^k:=Nat.lt_trans (Z1 _ HK.out.pos) (zbp (fun i _=>HK.out.vl i))
     by_cases h1:x=off+k
     ·exact EQ
     ·rw[Zh h1];unfold zdD
      by_cases h2:off<=x/\x<off+k
      ·rw[Zq h2,Zq Ya,<- x2,zdm (zhA HK.out.ul) Ya]
      ·rw[Zh h2,Zh Ya]
   ·have hs':u k<B+C:=Ya;have hag:=HK.out.again HQa.out HQb.out hqB (by rw[<- HBe.out,<- HCe.out];exact hs');have hQ:=HK.out.quo_lt;obtain⟨HQl,HX,E1⟩:=hd3 hQ hag (znW hu hC hBb hs');have E2:=zmW hu hC hBb hs';clear hO hag hQ hs;obtain⟨G,hG⟩:∃G:Nat->Nat,G=(fun x=>if x=off+k then(u k+4294967296-(B+C))%4294967296 else zdD F off (zfP u (dig lv) q) k x):=⟨_,rfl⟩
    have HG:=hid hG;have hG1:Hid (∀m,m<k->G (off+m)=zfP u (dig lv) q m):=fun m hm=>by
     rw[HG.out];show(if off+m=off+k then _ else _)=_
     rw[Zh Ya];unfold zdD;rw[Zq Ya,ZaD]
    have hG2:Hid (G (off+k)=(u k+4294967296-(B+C))%4294967296):=by rw[HG.out];exact Zq rfl
    have hG3:Hid (∀x,¬ (off<=x/\x<=off+k)->G x=F x):=fun x hx=>by
     rw[HG.out];show(if x=off+k then _ else _)=_
     rw[Zh Ya];unfold zdD;rw[Zh Ya]
    clear hG;go_wp2
    go_loopw [7,72] (fun cv i wr=>∃m C':Nat,m<=k/\i=.int .i64 (m:Int)/\cv=.int .u64 (C':Int)/\Hid (C'=zQ (zfP u (dig lv) q) (dig lv) m)/\
     Hid (Blk wr g N (zdD G off (zfQ (zfP u (dig lv) q) (dig lv)) m) T)/\zfH g w wr) (fun _ i _=>k-(intOf i).toNat)
    case atStart=>
     refine⟨0,0,Zs _,rfl,rfl,rfl,?_,HO.out.setCell _ _⟩
     rw[E1.out];unfold Hid;rw[zdR,HG.out];exact HB.out.set (off+k) _
    case round=>
     clear HB HO E1 E2 c2 f2;obtain⟨m,C',hm,rfl,rfl,HC',HB,hO⟩:=hrel;have hC1:C'<=1:=by rw[HC'.out];exact zeR (zhA HK.out.ul) HK.out.vl
     by_cases hlt:m<k
     ·have c1:=HCv.out m hlt;rw[<- hO.cell (p:=⟨bv,ov+m,none⟩) hne]at c1;have c2:=HB.out.cell (x:=off+m) Ya;rw[zev,hG1.out m hlt]at c2;have f2:=HB.out.free (off+m);have hd:=HK.out.vl m;have hr:=zhA (v:=dig lv) (q:=q) HK.out.ul m;have HO:=hid hO;clear hO;go_wp2;go_roundw
      case rel=>
       have e1:((C':Int)+((zfP u (dig lv) q m:Int)+(dig lv m:Int)))%4294967296=((zfQ (zfP u (dig lv) q) (dig lv) m:Nat):Int):=by
        unfold zfQ;rw[<- HC'.out];omega
       have e2:((C':Int)+((zfP u (dig lv) q m:Int)+(dig lv m:Int)))/4294967296=((zQ (zfP u (dig lv) q) (dig lv) (m+1):Nat):Int):=by
        simp only[zQ];rw[<- HC'.out];omega
       refine⟨m+1,zQ (zfP u (dig lv) q) (dig lv) (m+1),hlt,Yg,by rw[e2],rfl,?_,HO.out.setCell _ _⟩
       rw[e1];unfold Hid;rw[zc5];exact HB.out.set (off+m) _
      case measure=>simp[intOf];omega
     ·obtain rfl:m=k:=Ya;have c2:=HB.out.cell (x:=off+m) Ya;rw[zev,hG2.out]at c2;have f2:=HB.out.free (off+m);have HO:=hid hO;obtain⟨x1,x2,x3⟩:=HX.out;rw[<- HBe.out,<- HCe.out,<- HC'.out]at x3;obtain⟨X1,X2,X3⟩:=hd3 x1 x2 x3;have hq0:(1:Int)<=(q:Int):=by
       have:1<=q:=by rw[x1];exact Zbz _ _
       omega
      generalize hW:(u m+4294967296-(B+C))%4294967296=W at *;have HW:=hid hW;have hWl:W<4294967296:=Ya;clear hO x1 x2 x3 hW;go_wp2;go_ret
      refine⟨zaH ?_,?_,HO.out.setCell _ _⟩
      ·have h1:=HQl.out;have h2:=X1.out;generalize zx u (m+1)/zx (dig lv) m=Q at h1 h2⊢;omega
      ·have e:((W:Int)+(C':Int))%4294967296=((0:Nat):Int):=by have:=X3.out;have:=HW.out;omega
       rw[e];have hlt:zx u (m+1)%zx (dig lv) m<4294967296^m:=Nat.lt_trans (Z1 _ HK.out.pos) (zbp (fun i _=>HK.out.vl i))
       refine(HB.out.set (off+m) 0).congr (fun x hx=>?_)
       by_cases h1:x=off+m
       ·exact EQ
       ·rw[Zh h1];unfold zdD
        by_cases h2:off<=x/\x<off+m
        ·rw[Zq h2,Zq Ya,<- X2.out,zdm (zh5 _ _) Ya]
        ·rw[Zh h2,Zh Ya];exact hG3.out x Ya
